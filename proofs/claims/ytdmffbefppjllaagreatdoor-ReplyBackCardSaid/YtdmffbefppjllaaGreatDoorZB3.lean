/- Parts of the proof, in order. No conditions but those that each theorem states. -/
import Derived.Test.YtdmffbefppjllaaGreatDoorZB2
import Derived.WalkMore
/- Layer 11: a chunked body's reader in memory; its line, isRest. No conditions but on lengths. -/
namespace Go.Proofs.YtdmffbefppjllaaGreatDoor
open Go.RowKit Go.Shelf

def ckC (c : Ck) (ad v : Value) : List Value := [.int .i64 (c.st : Nat), .int .i64 (c.left : Nat), .int .i64 (c.most : Nat), .int .i64 (c.flds : Nat), .string (S c.inp), ad, v, .int .i64 (c.dat.length : Nat), .int .i64 c.err]
theorem ck_lies : Lies 107 9 5 := ⟨by kernel_rfl, by omega⟩
/-- a reader of a chunked body lies in block b, its builder's bytes in v; of its data, p was taken -/
def Ct (B : Nat) (w : World) (b : Nat) (p : List UInt8) (c : Ck) (v : Value) : Prop := ∃ ad o, Bd B w b 5 107 (ckC c ad v) v o ∧ c.dat = p ++ o
theorem Ct.keep {B b : Nat} {w w' : World} {p : List UInt8} {c : Ck} {v : Value} {S : List Nat} (h : Ct B w b p c v) (k : Keep S w w') (hb : b ∉ S) (hv : ∀ g, v.ownBlock = some g → g ∉ S) : Ct B w' b p c v := by
  obtain ⟨ad, o, h1, h2⟩ := h
  exact ⟨ad, o, h1.keep k hb hv, h2⟩
theorem Ct.keep0 {B b : Nat} {w w' : World} {p : List UInt8} {c : Ck} {v : Value} (h : Ct B w b p c v) (k : Keep [] w w') : Ct B w' b p c v := h.keep k (by simp) (by simp)
theorem Ct.drew {B b : Nat} {w : World} {p : List UInt8} {c : Ck} {v : Value} (h : Ct B w b p c v) : Ct B w.drew b p c v := h.keep0 ((Keep.refl [] w).drew)
theorem Ct.cells {B b : Nat} {w : World} {p : List UInt8} {c : Ck} {v : Value} (h : Ct B w b p c v) : ∃ ad, Blk w b 107 (ckC c ad v) := let ⟨ad, _, h1, _⟩ := h; ⟨ad, h1.blk⟩
/-- a cell of a reader is stored -/
theorem Ct.set {B b : Nat} {w : World} {p : List UInt8} {c c' : Ck} {v : Value} (h : Ct B w b p c v) (k : Nat) (x : Value) (hc : ∀ ad, (ckC c ad v).set k x = ckC c' ad v) (hd : c'.dat = c.dat) : Ct B (w.setCell ⟨b, k, none⟩ x) b p c' v := by
  obtain ⟨ad, o, h1, h2⟩ := h
  refine ⟨ad, o, ⟨?_, ?_, rfl, ?_, h1.ne⟩, hd.trans h2⟩
  · rw [← hc ad]; exact h1.blk.set k x
  · have := h1.ad
    simpa [ckC] using this
  · exact h1.own.keep (S := [b]) ((Keep.refl _ _).setCell _ _ (by simp)) (fun g hg => by
      simp only [List.mem_singleton]
      rintro rfl
      exact h1.ne hg)
theorem Ct.at {B b : Nat} {w : World} {p : List UInt8} {c : Ck} {v : Value} (h : Ct B w b p c v) : w.cell? ⟨b, 0, none⟩ = some (.int .i64 (c.st : Nat)) ∧ w.cell? ⟨b, 1, none⟩ = some (.int .i64 (c.left : Nat)) ∧ w.cell? ⟨b, 2, none⟩ = some (.int .i64 (c.most : Nat)) ∧ w.cell? ⟨b, 3, none⟩ = some (.int .i64 (c.flds : Nat)) ∧
    w.cell? ⟨b, 4, none⟩ = some (.string (S c.inp)) ∧ w.cell? ⟨b, 7, none⟩ = some (.int .i64 (c.dat.length : Nat)) ∧ w.cell? ⟨b, 8, none⟩ = some (.int .i64 c.err) := by
  obtain ⟨ad, h1⟩ := h.cells
  exact ⟨h1.get rfl, h1.get rfl, h1.get rfl, h1.get rfl, h1.get rfl, h1.get rfl, h1.get rfl⟩
theorem Ct.free {B b : Nat} {w : World} {p : List UInt8} {c : Ck} {v : Value} (h : Ct B w b p c v) (k : Nat) : w.frozen? ⟨b, k, none⟩ = false := let ⟨_, h1⟩ := h.cells; h1.frozen k

theorem idx_n {l : List UInt8} {m : Nat} {w : World} (_hm : m ≤ l.length) : Calls Tryz.prog 82 #[.string ((S l).extract 0 m), .int .u8 10] w fun e w' => e = .returned (.int .i64 (Lib.indexByte (l.take m) 10)) ∧ w' = w := by
  have h := Tryz.strings_IndexByte ((S l).extract 0 m) 10 w
  rw [S_extract, List.drop_zero] at h ⊢
  exact h

set_option maxRecDepth 100000 in
set_option maxHeartbeats 1000000 in
theorem chunk_line (B b : Nat) (p : List UInt8) (c : Ck) (v : Value) (w : World) (h : Ct B w b p c v) (hl : c.inp.length ≤ 1048576) :
    Calls Tryz.prog 113 #[.pointer (some ⟨b, 0, none⟩)] w fun e w' => e = .returned (.tuple #[.string (S (lnC c.inp).t), .int .i64 (lnC c.inp).e]) ∧ Ct B w' b p { c with inp := (lnC c.inp).r } v ∧ Keep [b] w w' := by
  have sz := S_size c.inp
  obtain ⟨_, _, _, _, c4, _, _⟩ := h.at
  have H := Lib.hid h
  have hI := fun w1 => idx_n (l := c.inp) (m := min c.inp.length 256) (w := w1) (Nat.min_le_left _ _)
  have e256 : c.inp.take (min c.inp.length 256) = c.inp.take 256 := by
    rcases Nat.le_total c.inp.length 256 with hh | hh
    · rw [Nat.min_eq_left hh, List.take_length, List.take_of_length_le hh]
    · rw [Nat.min_eq_right hh]
  rw [e256] at hI
  have hmin : min ((c.inp.length : Nat) : Int) 256 = ((min c.inp.length 256 : Nat) : Int) := by omega
  generalize hmm : min c.inp.length 256 = m at *
  have m1 : (m : Int) ≤ (c.inp.length : Int) := by omega
  have m0 : (0 : Int) ≤ (m : Int) := by omega
  have HI := Lib.hid hI
  have hcases := line_cases c.inp
  have hshort := line_short (l := c.inp)
  have hat := fun k => line_at (l := c.inp) (k := k)
  clear h e256 hmm hI
  generalize Lib.indexByte (c.inp.take 256) 10 = ix at *
  go_enter Tryz.func113, Tryz.ntmps113
  go_upto_region 1 with fail
  go_cut [4] (fun y wx => y = .int .i64 ix ∧ Hid (Keep [] w wx))
  case first =>
    clear hcases hshort hat
    go_region_with (first
      | (go_at_call 82; refine (HI.out _).mono ?_; rintro e w1 ⟨rfl, rfl⟩)
      | fail)
    all_goals
      go_wp2_with fail
      go_meet
      exact ⟨rfl, Lib.hid (by repeat (first | exact Keep.refl _ _ | apply Keep.drew))⟩
  case rest =>
  obtain ⟨rfl, KX⟩ := hcut
  have H1 := Lib.hid (H.out.keep0 KX.out)
  clear c4 HI hmin m1 m0
  obtain ⟨_, _, _, _, c4, _, _⟩ := H1.out.at
  have f4 := H1.out.free 4
  have K1 := Lib.hid (KX.out.mono (S' := [b]) (by simp))
  rcases hcases with hn | ⟨k, hk, hkl, h256⟩
  · have hL := hshort hn
    by_cases h2 : 256 ≤ c.inp.length
    · rw [if_pos h2] at hL
      have HL := Lib.hid hL
      have h2' : decide (((c.inp.length : Nat) : Int) ≥ 256) = true := by simp; omega
      clear hL hshort hat
      go_wp2_with fail
      go_ret2
      rw [HL.out]
      exact ⟨rfl, H1.out, K1.out⟩
    · rw [if_neg h2] at hL
      have HL := Lib.hid hL
      have h2' : decide (((c.inp.length : Nat) : Int) ≥ 256) = false := by simp; omega
      clear hL hshort hat
      go_wp2_with fail
      go_ret2
      rw [HL.out]
      exact ⟨rfl, H1.out, K1.out⟩
  · have hL := hat k hk
    subst hk
    have hx1 : (S c.inp).extract 0 (k + 1) = S (c.inp.take (k + 1)) := by rw [S_extract, List.drop_zero]
    have hx2 : (S c.inp).extract (k + 1) c.inp.length = S (c.inp.drop (k + 1)) := by rw [S_extract, List.take_length]
    have hCS : ∀ w1, Calls Tryz.prog 111 #[.string (S (c.inp.take (k + 1))), .string ⟨#[13, 10]⟩] w1 fun e w' => e = .returned (.tuple #[.string (S (Lib.trimSuffix (c.inp.take (k + 1)) crlfC)), .bool (Lib.hasSuffix (c.inp.take (k + 1)) crlfC)]) ∧ w' = w1 := fun w1 =>
      Tryz.strings_CutSuffix (S (c.inp.take (k + 1))) ⟨#[13, 10]⟩ w1 (by rw [S_size, List.length_take]; omega)
    generalize Lib.trimSuffix (c.inp.take (k + 1)) crlfC = t at *
    generalize hsx : Lib.hasSuffix (c.inp.take (k + 1)) crlfC = sx at *
    have hkw := IntWalk.i64_in ((k : Int) + 1) (by omega)
    have hk1 : (k : Int) + 1 ≤ (c.inp.length : Int) := by omega
    have hk0 : (0 : Int) ≤ (k : Int) + 1 := by omega
    have hkn : ((k : Int) + 1).toNat = k + 1 := by omega
    have hkl0 : decide ((k : Int) < 0) = false := by simp
    clear hshort hat hsx
    cases sx with
    | false =>
      have HL := Lib.hid (show lnC c.inp = ⟨[], 3, c.inp⟩ from hL)
      have HCS := Lib.hid hCS
      clear hL hCS
      go_wp2_with fail
      refine (HCS.out _).mono ?_
      rintro e w1 ⟨rfl, rfl⟩
      go_wp2_with fail
      go_ret2
      rw [HL.out]
      exact ⟨rfl, H1.out, K1.out⟩
    | true =>
      have HL := Lib.hid (show lnC c.inp = ⟨t, 0, c.inp.drop (k + 1)⟩ from hL)
      have HCS := Lib.hid hCS
      clear hL hCS
      go_wp2_with fail
      refine (HCS.out _).mono ?_
      rintro e w1 ⟨rfl, rfl⟩
      go_wp2_with fail
      go_ret2
      rw [HL.out]
      exact ⟨rfl, H1.out.set 4 _ (fun _ => rfl) rfl, K1.out.setCell _ _ (by simp)⟩

def xColon : List UInt8 := [120, 58]
theorem isRest_parse (r : List UInt8) : parseE (xColon ++ r) = if isTxt r then 0 else 3 := by
  have hi : Lib.indexByte (xColon ++ r) 58 = ((1 : Nat) : Int) := indexByte_at rfl (fun j hj => by
    have : j = 0 := by omega
    subst this
    show (some (120 : UInt8)) ≠ some 58
    decide)
  unfold parseE
  rw [parseF_eq, hi]
  have h1 : (xColon ++ r).take ((1 : Nat) : Int).toNat = [120] := rfl
  have h2 : (xColon ++ r).drop (((1 : Nat) : Int).toNat + 1) = r := rfl
  rw [h1, h2]
  have h3 : isTok [120] = true := by decide +kernel
  cases isTxt r <;> simp [h3]

theorem parse_two (l : List UInt8) (w : World) (hm : ML w) (hl : l.length < 4294967281) : Calls Tryz.prog 74 #[.string (S l)] w fun e w' => e = .returned (.tuple #[.agg #[.string (S (parseV l).name), .string (S (parseV l).value)], .int .i64 (parseE l)]) ∧ Keep [] w w' := field_Parse l w hm hl

set_option maxRecDepth 100000 in
set_option maxHeartbeats 1000000 in
theorem chunk_isRest (r : List UInt8) (w : World) (hm : ML w) (hl : r.length ≤ 1048576) :
    Calls Tryz.prog 115 #[.string (S r)] w fun e w' => e = .returned (.bool (restOk r)) ∧ Keep [] w w' := by
  have hsz := S_size r
  have hte := S_toList r
  cases r with
  | nil =>
    go_enter Tryz.func115, Tryz.ntmps115
    go_wp2_with fail
    go_ret
    exact ⟨rfl, Keep.refl _ _⟩
  | cons c r =>
    have hO : restOk (c :: r) = (isTxt (c :: r) && decide (0 ≤ Lib.indexByte [32, 9, 59] c)) := rfl
    have hg := fun hk => S_get (l := c :: r) (k := 0) (c := c) rfl hk
    have hP := parse_two (xColon ++ (c :: r)) w hm (by simp [xColon] at hl ⊢; omega)
    rw [isRest_parse] at hP
    have hcat : (⟨#[120, 58]⟩ : ByteArray) ++ S (c :: r) = S (xColon ++ (c :: r)) := S_append xColon _
    have hix := Tryz.strings_IndexByte ⟨#[32, 9, 59]⟩ c.toNat
    have ec : ((c.toNat : Int)).toNat.toUInt8 = c := by simp
    rw [ec] at hix
    change ∀ w1, Calls Tryz.prog 82 #[.string ⟨#[32, 9, 59]⟩, .int .u8 c.toNat] w1 fun e w' => e = .returned (.int .i64 (Lib.indexByte [32, 9, 59] c)) ∧ w' = w1 at hix
    generalize restOk (c :: r) = ro at *
    generalize hl0 : c :: r = l at *
    have hemp : l.isEmpty = false := by rw [← hl0]; rfl
    have hlen : 0 < l.length := by rw [← hl0]; simp
    generalize (parseV (xColon ++ l)).name = pn at *
    generalize (parseV (xColon ++ l)).value = pw at *
    generalize xColon ++ l = xl at *
    generalize Lib.indexByte [32, 9, 59] c = ix at *
    have hcc := u8_nat c
    clear hl0 ec
    have HIX := Lib.hid hix
    cases htx : isTxt l with
    | false =>
      rw [htx] at hP hO
      have HP := Lib.hid hP
      have HO := Lib.hid hO
      clear hP hO htx hix hg
      go_enter Tryz.func115, Tryz.ntmps115
      go_wp2_with fail
      refine HP.out.mono ?_
      rintro e w1 ⟨rfl, k1⟩
      go_wp2_with fail
      go_ret
      refine ⟨ret_bool (by rw [HO.out]; rfl), ?_⟩
      repeat (first | exact k1 | exact Keep.alloc k1 _ | (refine Keep.setCell ?_ _ _ (by first | omega | (intro hh; exact absurd hh (by have := k1.size; simp; omega)))))
    | true =>
      rw [htx] at hP hO
      have HP := Lib.hid hP
      have HO := Lib.hid hO
      clear hP hO htx hix
      by_cases h0 : 0 ≤ ix
      · have h0' : decide (ix ≥ 0) = true := by simp; omega
        go_enter Tryz.func115, Tryz.ntmps115
        go_wp2_with fail
        refine HP.out.mono ?_
        rintro e w1 ⟨rfl, k1⟩
        go_wp2_with fail
        refine (HIX.out _).mono ?_
        rintro e w2 ⟨rfl, rfl⟩
        go_wp2_with fail
        go_ret
        refine ⟨ret_bool (by rw [HO.out]; simp [h0]), ?_⟩
        repeat (first | exact k1 | exact Keep.alloc k1 _ | (refine Keep.setCell ?_ _ _ (by first | omega | (intro hh; exact absurd hh (by have := k1.size; simp; omega)))))
      · have h0' : decide (ix ≥ 0) = false := by simp; omega
        go_enter Tryz.func115, Tryz.ntmps115
        go_wp2_with fail
        refine HP.out.mono ?_
        rintro e w1 ⟨rfl, k1⟩
        go_wp2_with fail
        refine (HIX.out _).mono ?_
        rintro e w2 ⟨rfl, rfl⟩
        go_wp2_with fail
        go_ret
        refine ⟨ret_bool (by rw [HO.out]; simp [h0]), ?_⟩
        repeat (first | exact k1 | exact Keep.alloc k1 _ | (refine Keep.setCell ?_ _ _ (by first | omega | (intro hh; exact absurd hh (by have := k1.size; simp; omega)))))
end Go.Proofs.YtdmffbefppjllaaGreatDoor

/- Layer 11: begin, close, trailer, data, step. No conditions but on lengths. -/
namespace Go.Proofs.YtdmffbefppjllaaGreatDoor
open Go.RowKit Go.Shelf

theorem num_len (t : List UInt8) : (numRest t).length ≤ t.length := by unfold numRest Lib.trimLeftS; exact List.Sublist.length_le (List.dropWhile_sublist _)

set_option maxRecDepth 100000 in
set_option maxHeartbeats 2000000 in
theorem chunk_begin (B b : Nat) (p : List UInt8) (c : Ck) (v : Value) (w : World) (hm : ML w) (hb : 0 ≠ b) (h : Ct B w b p c v) (hl : c.inp.length ≤ 1048576) (hmost : (c.most : Int) ≤ 9223372036854775807) (hok : c.dat.length ≤ c.most) :
    Calls Tryz.prog 90 #[.pointer (some ⟨b, 0, none⟩)] w fun e w' => e = .returned (.int .i64 (beginM c).2) ∧ Ct B w' b p (beginM c).1 v ∧ Keep [b] w w' := by
  have HL := Lib.hid (chunk_line B b p c v w h hl)
  have hle := line_le c.inp
  have HT := Lib.hid (fun w1 => show Calls Tryz.prog 114 #[.string (S (lnC c.inp).t), .string ⟨#[48, 49, 50, 51, 52, 53, 54, 55, 56, 57, 97, 98, 99, 100, 101, 102, 65, 66, 67, 68, 69, 70]⟩] w1 fun e w' => e = .returned (.string (S (numRest (lnC c.inp).t))) ∧ Below w1.heap.size w1 w' from
    Any.strings_TrimLeft_laid Tryz.lays161 (by kernel_rfl) (S (lnC c.inp).t) ⟨#[48, 49, 50, 51, 52, 53, 54, 55, 56, 57, 97, 98, 99, 100, 101, 102, 65, 66, 67, 68, 69, 70]⟩ w1 (by decide) (ascii_of_all (by decide)))
  have hnl := num_len (lnC c.inp).t
  have HR := Lib.hid (fun w1 (hm1 : ML w1) => chunk_isRest (numRest (lnC c.inp).t) w1 hm1 (by omega))
  have HU := Lib.hid (fun w1 => hexa_Unhexnum (numT (lnC c.inp).t) ((c.most : Int) - (c.dat.length : Nat)) w1 (show (numT (lnC c.inp).t).length ≤ 9223372036854775807 by unfold numT; rw [List.length_take]; omega))
  have hbe : beginM c = if (lnC c.inp).e ≠ 0 then (c, (lnC c.inp).e)
    else if numE (lnC c.inp).t ((c.most : Int) - (c.dat.length : Nat)) ≠ 0 then ({ c with inp := (lnC c.inp).r }, numE (lnC c.inp).t ((c.most : Int) - (c.dat.length : Nat)))
    else ({ c with inp := (lnC c.inp).r, left := (numV (lnC c.inp).t ((c.most : Int) - (c.dat.length : Nat))).toNat, st := if numV (lnC c.inp).t ((c.most : Int) - (c.dat.length : Nat)) = 0 then 3 else 1 }, 0) := rfl
  have hE : numE (lnC c.inp).t ((c.most : Int) - (c.dat.length : Nat)) = if restOk (numRest (lnC c.inp).t) then (if unhexE (numT (lnC c.inp).t) ((c.most : Int) - (c.dat.length : Nat)) = 14 then 4 else unhexE (numT (lnC c.inp).t) ((c.most : Int) - (c.dat.length : Nat))) else 3 := rfl
  have hV : numV (lnC c.inp).t ((c.most : Int) - (c.dat.length : Nat)) = unhexV (numT (lnC c.inp).t) ((c.most : Int) - (c.dat.length : Nat)) := rfl
  have hVr := fun hh => numV_range (t := (lnC c.inp).t) (m := (c.most : Int) - (c.dat.length : Nat)) hh
  have hEr := unhex_range (numT (lnC c.inp).t) ((c.most : Int) - (c.dat.length : Nat))
  have hle2 := line_err (l := c.inp)
  generalize (lnC c.inp).e = le at *
  generalize hrr : (lnC c.inp).r = lr at *
  have hx : (S (lnC c.inp).t).extract 0 ((lnC c.inp).t.length - (numRest (lnC c.inp).t).length) = S (numT (lnC c.inp).t) := by rw [S_extract, List.drop_zero]; rfl
  generalize numT (lnC c.inp).t = nt at *
  generalize restOk (numRest (lnC c.inp).t) = ro at *
  generalize numE (lnC c.inp).t ((c.most : Int) - (c.dat.length : Nat)) = ne at *
  generalize numV (lnC c.inp).t ((c.most : Int) - (c.dat.length : Nat)) = nv at *
  generalize unhexE nt ((c.most : Int) - (c.dat.length : Nat)) = ue at *
  generalize unhexV nt ((c.most : Int) - (c.dat.length : Nat)) = uv at *
  generalize numRest (lnC c.inp).t = nr at *
  generalize (lnC c.inp).t = lt at *
  have s1 := S_size lt
  have s2 := S_size nr
  subst hV
  clear h
  by_cases h0 : le = 0
  · subst h0
    rw [if_neg (by simp)] at hbe
    cases ro with
    | false =>
      rw [if_neg (by simp)] at hE
      subst hE
      rw [if_pos (by decide)] at hbe
      have HB := Lib.hid hbe
      clear hbe hVr hEr hx hle2
      go_enter Tryz.func90, Tryz.ntmps90
      go_wp2_with fail
      refine HL.out.mono ?_
      rintro e w1 ⟨rfl, t1, k1⟩
      have T1 := Lib.hid t1
      have K1 := Lib.hid k1
      clear t1 k1
      go_wp2_with fail
      refine (HT.out _).mono ?_
      rintro e w2 ⟨rfl, k2⟩
      have K2 := Lib.hid (Keep.of_below k2 [])
      clear k2
      go_wp2_with fail
      refine (HR.out _ ((hm.keep K1.out (by simpa using hb)).keep K2.out (by simp))).mono ?_
      rintro e w3 ⟨rfl, k3⟩
      have K3 := Lib.hid k3
      clear k3
      go_wp2_with fail
      go_ret
      rw [HB.out]
      exact ⟨rfl, (T1.out.keep0 K2.out).keep0 K3.out, (K1.out.trans' K2.out (by simp)).trans' K3.out (by simp)⟩
    | true =>
      rw [if_pos rfl] at hE
      have hsub : ((lt.length : Nat) : Int) - ((nr.length : Nat) : Int) = ((lt.length - nr.length : Nat) : Int) := by omega
      have hsw := IntWalk.i64_in (((lt.length - nr.length : Nat)) : Int) (by omega)
      have hs0 : (0 : Int) ≤ ((lt.length - nr.length : Nat) : Int) := by omega
      have hs1 : ((lt.length - nr.length : Nat) : Int) ≤ ((lt.length : Nat) : Int) := by omega
      have hmw := IntWalk.i64_in ((c.most : Int) - (c.dat.length : Nat)) (by omega)
      generalize lt.length - nr.length = sl at *
      by_cases hu0 : ue = 0
      · subst hu0
        rw [if_neg (by decide)] at hE
        subst hE
        rw [if_neg (by simp)] at hbe
        obtain ⟨v0, v1⟩ := hVr rfl
        obtain ⟨m, rfl⟩ : ∃ m : Nat, nv = m := ⟨nv.toNat, by omega⟩
        have htn : ((m : Nat) : Int).toNat = m := by omega
        rw [htn] at hbe
        by_cases hz : m = 0
        · rw [if_pos (by omega)] at hbe
          subst hz
          have HB := Lib.hid hbe
          clear hbe hVr hEr hle2
          go_enter Tryz.func90, Tryz.ntmps90
          go_wp2_with fail
          refine HL.out.mono ?_
          rintro e w1 ⟨rfl, t1, k1⟩
          have T1 := Lib.hid t1
          have K1 := Lib.hid k1
          clear t1 k1
          go_wp2_with fail
          refine (HT.out _).mono ?_
          rintro e w2 ⟨rfl, k2⟩
          have K2 := Lib.hid (Keep.of_below k2 [])
          clear k2
          go_wp2_with fail
          refine (HR.out _ ((hm.keep K1.out (by simpa using hb)).keep K2.out (by simp))).mono ?_
          rintro e w3 ⟨rfl, k3⟩
          have T3 := Lib.hid ((T1.out.keep0 K2.out).keep0 k3)
          have K3 := Lib.hid ((K1.out.trans' K2.out (by simp)).trans' k3 (by simp))
          clear k3
          obtain ⟨_, _, c2, _, _, c7, _⟩ := T3.out.at
          dsimp only at c2 c7
          go_upto_region 7 with fail
          go_cut [6, 4] (fun y z wx => y = .int .i64 0 ∧ z = .int .i64 0 ∧ Hid (Keep [] w3 wx))
          case first =>
            go_region_with (first
              | (go_at_call 116; refine (HU.out _).mono ?_; rintro e w4 ⟨rfl, k4⟩; have K4 := Lib.hid (Keep.trans (S := []) (a := w3) (by repeat (first | exact Keep.refl [] _ | apply Keep.drew)) k4); clear k4)
              | fail)
            all_goals
              go_wp2_with fail
              go_meet
              exact ⟨rfl, rfl, Lib.hid (by repeat (first | exact K4.out | apply Keep.drew))⟩
          case rest =>
          obtain ⟨rfl, rfl, KX⟩ := hcut
          have T4 := Lib.hid (T3.out.keep0 KX.out)
          have K4 := Lib.hid (K3.out.trans' KX.out (by simp))
          clear KX c2 c7
          obtain ⟨d0, d1, _, _, _, _, _⟩ := T4.out.at
          have f0 := T4.out.free 0
          have f1 := T4.out.free 1
          dsimp only at d0 d1
          go_wp2_with fail
          go_ret
          rw [HB.out]
          refine ⟨rfl, ?_, ((K4.out.setCell _ _ (by simp)).setCell _ _ (by simp)).setCell _ _ (by simp)⟩
          exact (((T4.out.set 1 _ (fun _ => rfl) rfl (c' := { c with inp := lr, left := 0 })).set 0 _ (fun _ => rfl) rfl (c' := { c with inp := lr, left := 0, st := 1 })).set 0 _ (fun _ => rfl) rfl)
        · rw [if_neg (by omega)] at hbe
          have HB := Lib.hid hbe
          have hz' := (int_ne (show ((m : Nat) : Int) ≠ 0 by omega)).1
          clear hbe hVr hEr hle2
          go_enter Tryz.func90, Tryz.ntmps90
          go_wp2_with fail
          refine HL.out.mono ?_
          rintro e w1 ⟨rfl, t1, k1⟩
          have T1 := Lib.hid t1
          have K1 := Lib.hid k1
          clear t1 k1
          go_wp2_with fail
          refine (HT.out _).mono ?_
          rintro e w2 ⟨rfl, k2⟩
          have K2 := Lib.hid (Keep.of_below k2 [])
          clear k2
          go_wp2_with fail
          refine (HR.out _ ((hm.keep K1.out (by simpa using hb)).keep K2.out (by simp))).mono ?_
          rintro e w3 ⟨rfl, k3⟩
          have T3 := Lib.hid ((T1.out.keep0 K2.out).keep0 k3)
          have K3 := Lib.hid ((K1.out.trans' K2.out (by simp)).trans' k3 (by simp))
          clear k3
          obtain ⟨_, _, c2, _, _, c7, _⟩ := T3.out.at
          dsimp only at c2 c7
          go_upto_region 7 with fail
          go_cut [6, 4] (fun y z wx => y = .int .i64 (m : Nat) ∧ z = .int .i64 0 ∧ Hid (Keep [] w3 wx))
          case first =>
            go_region_with (first
              | (go_at_call 116; refine (HU.out _).mono ?_; rintro e w4 ⟨rfl, k4⟩; have K4 := Lib.hid (Keep.trans (S := []) (a := w3) (by repeat (first | exact Keep.refl [] _ | apply Keep.drew)) k4); clear k4)
              | fail)
            all_goals
              go_wp2_with fail
              go_meet
              exact ⟨rfl, rfl, Lib.hid (by repeat (first | exact K4.out | apply Keep.drew))⟩
          case rest =>
          obtain ⟨rfl, rfl, KX⟩ := hcut
          have T4 := Lib.hid (T3.out.keep0 KX.out)
          have K4 := Lib.hid (K3.out.trans' KX.out (by simp))
          clear KX c2 c7
          obtain ⟨d0, d1, _, _, _, _, _⟩ := T4.out.at
          have f0 := T4.out.free 0
          have f1 := T4.out.free 1
          dsimp only at d0 d1
          go_wp2_with fail
          go_ret
          rw [HB.out]
          refine ⟨rfl, ?_, (K4.out.setCell _ _ (by simp)).setCell _ _ (by simp)⟩
          exact ((T4.out.set 1 _ (fun _ => rfl) rfl (c' := { c with inp := lr, left := m })).set 0 _ (fun _ => rfl) rfl)
      · have hne : ne ≠ 0 := by rw [hE]; split <;> omega
        rw [if_pos hne] at hbe
        have hcase : (ue = 14 ∧ ne = 4) ∨ (ue = 3 ∧ ne = 3) := by
          rcases (hEr.2 hu0).2 with h14 | h3
          · exact .inl ⟨h14, by rw [hE, if_pos h14]⟩
          · exact .inr ⟨h3, by rw [hE, if_neg (by omega), h3]⟩
        rcases hcase with ⟨h14, hne4⟩ | ⟨h3, hne4⟩
        · rw [hne4] at hbe
          have q1 := (int_eq h14).1
          clear h14 hne4
          have HB := Lib.hid hbe
          clear hbe hVr hEr hle2 hE hne hu0
          go_enter Tryz.func90, Tryz.ntmps90
          go_wp2_with fail
          refine HL.out.mono ?_
          rintro e w1 ⟨rfl, t1, k1⟩
          have T1 := Lib.hid t1
          have K1 := Lib.hid k1
          clear t1 k1
          go_wp2_with fail
          refine (HT.out _).mono ?_
          rintro e w2 ⟨rfl, k2⟩
          have K2 := Lib.hid (Keep.of_below k2 [])
          clear k2
          go_wp2_with fail
          refine (HR.out _ ((hm.keep K1.out (by simpa using hb)).keep K2.out (by simp))).mono ?_
          rintro e w3 ⟨rfl, k3⟩
          have T3 := Lib.hid ((T1.out.keep0 K2.out).keep0 k3)
          have K3 := Lib.hid ((K1.out.trans' K2.out (by simp)).trans' k3 (by simp))
          clear k3
          obtain ⟨_, _, c2, _, _, c7, _⟩ := T3.out.at
          dsimp only at c2 c7
          go_upto_region 7 with fail
          go_cut [6, 4] (fun y z wx => y = .int .i64 nv ∧ z = .int .i64 ue ∧ Hid (Keep [] w3 wx))
          case first =>
            go_region_with (first
              | (go_at_call 116; refine (HU.out _).mono ?_; rintro e w4 ⟨rfl, k4⟩; have K4 := Lib.hid (Keep.trans (S := []) (a := w3) (by repeat (first | exact Keep.refl [] _ | apply Keep.drew)) k4); clear k4)
              | fail)
            all_goals
              go_wp2_with fail
              go_meet
              exact ⟨rfl, rfl, Lib.hid (by repeat (first | exact K4.out | apply Keep.drew))⟩
          case rest =>
          obtain ⟨rfl, rfl, KX⟩ := hcut
          have T4 := Lib.hid (T3.out.keep0 KX.out)
          have K4 := Lib.hid (K3.out.trans' KX.out (by simp))
          clear KX c2 c7
          go_wp2_with fail
          go_ret
          rw [HB.out]
          exact ⟨rfl, T4.out, K4.out⟩
        · rw [hne4, ← h3] at hbe
          have q1 := (int_ne (show ue ≠ 14 by omega)).1
          have q2 := (int_ne hu0).2
          clear h3 hne4
          have HB := Lib.hid hbe
          clear hbe hVr hEr hle2 hE hne hu0
          go_enter Tryz.func90, Tryz.ntmps90
          go_wp2_with fail
          refine HL.out.mono ?_
          rintro e w1 ⟨rfl, t1, k1⟩
          have T1 := Lib.hid t1
          have K1 := Lib.hid k1
          clear t1 k1
          go_wp2_with fail
          refine (HT.out _).mono ?_
          rintro e w2 ⟨rfl, k2⟩
          have K2 := Lib.hid (Keep.of_below k2 [])
          clear k2
          go_wp2_with fail
          refine (HR.out _ ((hm.keep K1.out (by simpa using hb)).keep K2.out (by simp))).mono ?_
          rintro e w3 ⟨rfl, k3⟩
          have T3 := Lib.hid ((T1.out.keep0 K2.out).keep0 k3)
          have K3 := Lib.hid ((K1.out.trans' K2.out (by simp)).trans' k3 (by simp))
          clear k3
          obtain ⟨_, _, c2, _, _, c7, _⟩ := T3.out.at
          dsimp only at c2 c7
          go_upto_region 7 with fail
          go_cut [6, 4] (fun y z wx => y = .int .i64 nv ∧ z = .int .i64 ue ∧ Hid (Keep [] w3 wx))
          case first =>
            go_region_with (first
              | (go_at_call 116; refine (HU.out _).mono ?_; rintro e w4 ⟨rfl, k4⟩; have K4 := Lib.hid (Keep.trans (S := []) (a := w3) (by repeat (first | exact Keep.refl [] _ | apply Keep.drew)) k4); clear k4)
              | fail)
            all_goals
              go_wp2_with fail
              go_meet
              exact ⟨rfl, rfl, Lib.hid (by repeat (first | exact K4.out | apply Keep.drew))⟩
          case rest =>
          obtain ⟨rfl, rfl, KX⟩ := hcut
          have T4 := Lib.hid (T3.out.keep0 KX.out)
          have K4 := Lib.hid (K3.out.trans' KX.out (by simp))
          clear KX c2 c7
          go_wp2_with fail
          go_ret
          rw [HB.out]
          exact ⟨rfl, T4.out, K4.out⟩
  · rw [if_pos h0] at hbe
    obtain ⟨rfl, rfl⟩ := hle2 h0
    have h0' := (int_ne h0).2
    have HB := Lib.hid hbe
    clear hbe hVr hEr hle2 hE hx h0
    go_enter Tryz.func90, Tryz.ntmps90
    go_wp2_with fail
    refine HL.out.mono ?_
    rintro e w1 ⟨rfl, t1, k1⟩
    have T1 := Lib.hid t1
    have K1 := Lib.hid k1
    clear t1 k1
    go_wp2_with fail
    go_ret
    rw [HB.out]
    exact ⟨rfl, T1.out, K1.out⟩
end Go.Proofs.YtdmffbefppjllaaGreatDoor

/- Layer 11: close, trailer, data, step. No conditions but on lengths. -/
namespace Go.Proofs.YtdmffbefppjllaaGreatDoor
open Go.RowKit Go.Shelf

set_option maxRecDepth 100000 in
set_option maxHeartbeats 2000000 in
theorem chunk_trailer (B b : Nat) (p : List UInt8) (c : Ck) (v : Value) (w : World) (hm : ML w) (hb : 0 ≠ b) (h : Ct B w b p c v) (hl : c.inp.length ≤ 1048576) (hfl : c.flds ≤ 16) :
    Calls Tryz.prog 93 #[.pointer (some ⟨b, 0, none⟩)] w fun e w' => e = .returned (.int .i64 (trailM c).2) ∧ Ct B w' b p (trailM c).1 v ∧ Keep [b] w w' := by
  have HL := Lib.hid (chunk_line B b p c v w h hl)
  have hle := line_le c.inp
  have HP := Lib.hid (fun w1 (hm1 : ML w1) => parse_two (lnC c.inp).t w1 hm1 (by omega))
  have hbe : trailM c = if (lnC c.inp).e ≠ 0 then (c, (lnC c.inp).e)
    else if (lnC c.inp).t = [] then ({ c with inp := (lnC c.inp).r, st := 4 }, 0)
    else if parseE (lnC c.inp).t ≠ 0 then ({ c with inp := (lnC c.inp).r }, parseE (lnC c.inp).t)
    else ({ c with inp := (lnC c.inp).r, flds := c.flds + 1 }, if 16 < c.flds + 1 then 4 else 0) := rfl
  have hPe := parseE_cases (lnC c.inp).t
  have hle2 := line_err (l := c.inp)
  generalize (lnC c.inp).e = le at *
  generalize (lnC c.inp).r = lr at *
  generalize (parseV (lnC c.inp).t).name = pn at *
  generalize (parseV (lnC c.inp).t).value = pw at *
  generalize parseE (lnC c.inp).t = pe at *
  generalize (lnC c.inp).t = lt at *
  have s1 := S_size lt
  have s2 := S_toList lt
  clear h
  by_cases h0 : le = 0
  · subst h0
    rw [if_neg (by simp)] at hbe
    by_cases ht : lt = []
    · rw [if_pos ht] at hbe
      have ht' : lt.isEmpty = true := by rw [ht]; rfl
      have HB := Lib.hid hbe
      clear hbe hle2 ht
      go_enter Tryz.func93, Tryz.ntmps93
      go_wp2_with fail
      refine HL.out.mono ?_
      rintro e w1 ⟨rfl, t1, k1⟩
      have T1 := Lib.hid t1
      have K1 := Lib.hid k1
      clear t1 k1
      obtain ⟨d0, _, _, _, _, _, _⟩ := T1.out.at
      have f0 := T1.out.free 0
      dsimp only at d0
      go_wp2_with fail
      go_ret
      rw [HB.out]
      exact ⟨rfl, T1.out.set 0 _ (fun _ => rfl) rfl, K1.out.setCell _ _ (by simp)⟩
    · have ht' : lt.isEmpty = false := by cases lt with | nil => exact absurd rfl ht | cons => rfl
      rw [if_neg ht] at hbe
      by_cases hp0 : pe = 0
      · subst hp0
        rw [if_neg (by simp)] at hbe
        have HB := Lib.hid hbe
        have hfw := IntWalk.i64_in ((c.flds : Int) + 1) (by omega)
        by_cases h16 : 16 < c.flds + 1
        · have h16' : decide ((c.flds : Int) + 1 > 16) = true := by simp; omega
          have HB := Lib.hid (hbe.trans (by rw [if_pos h16]))
          clear hbe hle2 ht h16
          go_enter Tryz.func93, Tryz.ntmps93
          go_wp2_with fail
          refine HL.out.mono ?_
          rintro e w1 ⟨rfl, t1, k1⟩
          have T1 := Lib.hid t1
          have K1 := Lib.hid k1
          clear t1 k1
          go_wp2_with fail
          refine (HP.out _ (hm.keep K1.out (by simpa using hb))).mono ?_
          rintro e w2 ⟨rfl, k2⟩
          have k3 := k2.alloc (.cells #[.string (S pn), .string (S pw)] 26)
          have T2 := Lib.hid (T1.out.keep0 k3)
          have K2 := Lib.hid (K1.out.trans' k3 (by simp))
          clear k2 k3
          obtain ⟨_, _, _, d3, _, _, _⟩ := T2.out.at
          have f3 := T2.out.free 3
          dsimp only at d3
          go_wp2_with fail
          go_ret
          rw [HB.out]
          refine ⟨rfl, T2.out.set 3 _ (fun _ => rfl) rfl, K2.out.setCell _ _ (by simp)⟩
        · have h16' : decide ((c.flds : Int) + 1 > 16) = false := by simp; omega
          have HB := Lib.hid (hbe.trans (by rw [if_neg h16]))
          clear hbe hle2 ht h16
          go_enter Tryz.func93, Tryz.ntmps93
          go_wp2_with fail
          refine HL.out.mono ?_
          rintro e w1 ⟨rfl, t1, k1⟩
          have T1 := Lib.hid t1
          have K1 := Lib.hid k1
          clear t1 k1
          go_wp2_with fail
          refine (HP.out _ (hm.keep K1.out (by simpa using hb))).mono ?_
          rintro e w2 ⟨rfl, k2⟩
          have k3 := k2.alloc (.cells #[.string (S pn), .string (S pw)] 26)
          have T2 := Lib.hid (T1.out.keep0 k3)
          have K2 := Lib.hid (K1.out.trans' k3 (by simp))
          clear k2 k3
          obtain ⟨_, _, _, d3, _, _, _⟩ := T2.out.at
          have f3 := T2.out.free 3
          dsimp only at d3
          go_wp2_with fail
          go_ret
          rw [HB.out]
          refine ⟨rfl, T2.out.set 3 _ (fun _ => rfl) rfl, K2.out.setCell _ _ (by simp)⟩
      · rw [if_pos hp0] at hbe
        have hp0' := (int_ne hp0).2
        have HB := Lib.hid hbe
        clear hbe hle2 ht hp0
        go_enter Tryz.func93, Tryz.ntmps93
        go_wp2_with fail
        refine HL.out.mono ?_
        rintro e w1 ⟨rfl, t1, k1⟩
        have T1 := Lib.hid t1
        have K1 := Lib.hid k1
        clear t1 k1
        go_wp2_with fail
        refine (HP.out _ (hm.keep K1.out (by simpa using hb))).mono ?_
        rintro e w2 ⟨rfl, k2⟩
        have k3 := k2.alloc (.cells #[.string (S pn), .string (S pw)] 26)
        have T2 := Lib.hid (T1.out.keep0 k3)
        have K2 := Lib.hid (K1.out.trans' k3 (by simp))
        clear k2 k3
        go_wp2_with fail
        go_ret
        rw [HB.out]
        exact ⟨rfl, T2.out, K2.out⟩
  · rw [if_pos h0] at hbe
    obtain ⟨rfl, rfl⟩ := hle2 h0
    have h0' := (int_ne h0).2
    have HB := Lib.hid hbe
    clear hbe hle2 h0
    go_enter Tryz.func93, Tryz.ntmps93
    go_wp2_with fail
    refine HL.out.mono ?_
    rintro e w1 ⟨rfl, t1, k1⟩
    have T1 := Lib.hid t1
    have K1 := Lib.hid k1
    clear t1 k1
    go_wp2_with fail
    go_ret
    rw [HB.out]
    exact ⟨rfl, T1.out, K1.out⟩

set_option maxRecDepth 100000 in
set_option maxHeartbeats 2000000 in
theorem chunk_close (B b : Nat) (p : List UInt8) (c : Ck) (v : Value) (w : World) (h : Ct B w b p c v) (hl : c.inp.length ≤ 1048576) :
    Calls Tryz.prog 92 #[.pointer (some ⟨b, 0, none⟩)] w fun e w' => e = .returned (.int .i64 (closeM c).2) ∧ Ct B w' b p (closeM c).1 v ∧ Keep [b] w w' := by
  have sz := S_size c.inp
  obtain ⟨c0, _, _, _, c4, _, _⟩ := h.at
  have f0 := h.free 0
  have f4 := h.free 4
  have H := Lib.hid h
  have hbe : closeM c = if c.inp.take 2 ≠ crlfC.take c.inp.length then (c, 3) else if c.inp.length < 2 then (c, 17) else ({ c with inp := c.inp.drop 2, st := 0 }, 0) := rfl
  have hmin : min ((c.inp.length : Nat) : Int) 2 = ((min c.inp.length 2 : Nat) : Int) := by omega
  have e2 : c.inp.take (min c.inp.length 2) = c.inp.take 2 := by
    rcases Nat.le_total c.inp.length 2 with hh | hh
    · rw [Nat.min_eq_left hh, List.take_length, List.take_of_length_le hh]
    · rw [Nat.min_eq_right hh]
  have e3 : crlfC.take (min c.inp.length 2) = crlfC.take c.inp.length := by
    rcases Nat.le_total c.inp.length 2 with hh | hh
    · rw [Nat.min_eq_left hh]
    · rw [Nat.min_eq_right hh, List.take_of_length_le (show crlfC.length ≤ c.inp.length from hh)]; rfl
  have x1 : (S c.inp).extract 0 (min c.inp.length 2) = S (c.inp.take 2) := by rw [S_extract, List.drop_zero, e2]
  have x2 : (⟨#[13, 10]⟩ : ByteArray).extract 0 (min c.inp.length 2) = S (crlfC.take c.inp.length) := by
    have := S_extract crlfC 0 (min c.inp.length 2)
    rw [List.drop_zero, e3] at this
    exact this
  have l1 := S_toList (c.inp.take 2)
  have l2 := S_toList (crlfC.take c.inp.length)
  have m2 : min c.inp.length 2 ≤ 2 := Nat.min_le_right _ _
  have m1 : min c.inp.length 2 ≤ c.inp.length := Nat.min_le_left _ _
  have x3 : (S c.inp).extract 2 c.inp.length = S (c.inp.drop 2) := by rw [S_extract, List.take_length]
  have hd : c.inp.length < 2 ↔ min c.inp.length 2 < 2 := by omega
  have hm2 : ¬ c.inp.length < 2 → min c.inp.length 2 = 2 := by omega
  generalize hmm : min c.inp.length 2 = m at *
  have i0 : (0 : Int) ≤ (m : Int) := by omega
  have i1 : (m : Int) ≤ (c.inp.length : Int) := by omega
  have i2 : (m : Int) ≤ 2 := by omega
  clear e2 e3 h hmm
  by_cases h1 : c.inp.take 2 = crlfC.take c.inp.length
  · rw [if_neg (by simp [h1])] at hbe
    have q1 : (c.inp.take 2 != crlfC.take c.inp.length) = false := by rw [h1]; simp
    have q2 : (c.inp.take 2 == crlfC.take c.inp.length) = true := by rw [h1]; simp
    generalize c.inp.take 2 = A1 at *
    generalize crlfC.take c.inp.length = A2 at *
    by_cases h2 : c.inp.length < 2
    · rw [if_pos h2] at hbe
      have h2' : decide ((m : Int) < 2) = true := by simp; omega
      have HB := Lib.hid hbe
      clear hbe h1 h2 hd hm2
      go_enter Tryz.func92, Tryz.ntmps92
      go_upto_region 2 with fail
      go_cut [10] (fun y wx => y = .bool false ∧ Hid (Keep [] w wx))
      case first =>
        go_region_with fail
        all_goals
          go_wp2_with fail
          go_meet
          exact ⟨rfl, Lib.hid (by repeat (first | exact Keep.refl _ _ | apply Keep.drew))⟩
      case rest =>
      obtain ⟨rfl, KX⟩ := hcut
      have H1 := Lib.hid (H.out.keep0 KX.out)
      have K1 := Lib.hid (KX.out.mono (S' := [b]) (by simp))
      clear c0 c4 f0 f4 KX
      obtain ⟨c0, _, _, _, c4, _, _⟩ := H1.out.at
      have f0 := H1.out.free 0
      have f4 := H1.out.free 4
      go_wp2_with fail
      go_ret
      rw [HB.out]
      exact ⟨rfl, H1.out, K1.out⟩
    · rw [if_neg h2] at hbe
      have hm := hm2 h2
      subst hm
      have HB := Lib.hid hbe
      clear hbe h1 hd hm2
      go_enter Tryz.func92, Tryz.ntmps92
      go_upto_region 2 with fail
      go_cut [10] (fun y wx => y = .bool false ∧ Hid (Keep [] w wx))
      case first =>
        go_region_with fail
        all_goals
          go_wp2_with fail
          go_meet
          exact ⟨rfl, Lib.hid (by repeat (first | exact Keep.refl _ _ | apply Keep.drew))⟩
      case rest =>
      obtain ⟨rfl, KX⟩ := hcut
      have H1 := Lib.hid (H.out.keep0 KX.out)
      have K1 := Lib.hid (KX.out.mono (S' := [b]) (by simp))
      clear c0 c4 f0 f4 KX
      obtain ⟨c0, _, _, _, c4, _, _⟩ := H1.out.at
      have f0 := H1.out.free 0
      have f4 := H1.out.free 4
      go_wp2_with fail
      go_ret
      rw [HB.out]
      exact ⟨rfl, (H1.out.set 4 _ (fun _ => rfl) rfl (c' := { c with inp := c.inp.drop 2 })).set 0 _ (fun _ => rfl) rfl, (K1.out.setCell _ _ (by simp)).setCell _ _ (by simp)⟩
  · rw [if_pos h1] at hbe
    have q1 : (c.inp.take 2 != crlfC.take c.inp.length) = true := by simp [h1]
    have q2 : (c.inp.take 2 == crlfC.take c.inp.length) = false := by simp [h1]
    generalize c.inp.take 2 = A1 at *
    generalize crlfC.take c.inp.length = A2 at *
    have HB := Lib.hid hbe
    clear hbe h1 hd hm2
    go_enter Tryz.func92, Tryz.ntmps92
    go_upto_region 2 with fail
    go_cut [10] (fun y wx => y = .bool true ∧ Hid (Keep [] w wx))
    case first =>
      go_region_with fail
      all_goals
        go_wp2_with fail
        go_meet
        exact ⟨rfl, Lib.hid (by repeat (first | exact Keep.refl _ _ | apply Keep.drew))⟩
    case rest =>
    obtain ⟨rfl, KX⟩ := hcut
    have H1 := Lib.hid (H.out.keep0 KX.out)
    have K1 := Lib.hid (KX.out.mono (S' := [b]) (by simp))
    clear c0 c4 f0 f4 KX
    obtain ⟨c0, _, _, _, c4, _, _⟩ := H1.out.at
    have f0 := H1.out.free 0
    have f4 := H1.out.free 4
    go_wp2_with fail
    go_ret
    rw [HB.out]
    exact ⟨rfl, H1.out, K1.out⟩
end Go.Proofs.YtdmffbefppjllaaGreatDoor

/- Layer 11: data, step. No conditions but on lengths. -/
namespace Go.Proofs.YtdmffbefppjllaaGreatDoor
open Go.RowKit Go.Shelf

theorem Bd.set {B b o : Nat} {T : TypeId} {cs : List Value} {v : Value} {l : List UInt8} {w : World} (h : Bd B w b o T cs v l) (k : Nat) (x : Value) (h1 : k ≠ o) (h2 : k ≠ o + 1) : Bd B (w.setCell ⟨b, k, none⟩ x) b o T (cs.set k x) v l := by
  refine ⟨h.blk.set k x, ?_, ?_, ?_, h.ne⟩
  · rw [List.getElem?_set_ne h1]; exact h.ad
  · rw [List.getElem?_set_ne h2]; exact h.buf
  · exact h.own.keep (S := [b]) ((Keep.refl _ _).setCell _ _ (by simp)) (fun g hg => by
      simp only [List.mem_singleton]
      rintro rfl
      exact h.ne hg)
/-- what a call on a reader leaves -/
def Aft (B : Nat) (w : World) (b : Nat) (p : List UInt8) (v : Value) (c' : Ck) (w' : World) : Prop := ∃ v', Ct B w' b p c' v' ∧ Keep (b :: v.ownBlock.toList) w w' ∧ (v'.ownBlock = v.ownBlock ∨ ∃ g, v'.ownBlock = some g ∧ w.heap.size ≤ g)
theorem Aft.of {B b : Nat} {w w' : World} {p : List UInt8} {v : Value} {c' : Ck} (h : Ct B w' b p c' v) (k : Keep [b] w w') : Aft B w b p v c' w' := ⟨v, h, k.mono (fun x hx _ => by simp at hx; simp [hx]), .inl rfl⟩
theorem Aft.trans {B b : Nat} {w w1 w2 : World} {p : List UInt8} {v v1 v2 : Value} {c1 c2 : Ck} (h : Ct B w1 b p c1 v1) (k : Keep (b :: v.ownBlock.toList) w w1) (hv : v1.ownBlock = v.ownBlock ∨ ∃ g, v1.ownBlock = some g ∧ w.heap.size ≤ g)
    (h2 : Ct B w2 b p c2 v2) (k2 : Keep (b :: v1.ownBlock.toList) w1 w2) (hv2 : v2.ownBlock = v1.ownBlock ∨ ∃ g, v2.ownBlock = some g ∧ w1.heap.size ≤ g) : Aft B w b p v c2 w2 := by
  refine ⟨v2, h2, k.trans' k2 (fun x hx hl => ?_), ?_⟩
  · rcases List.mem_cons.1 hx with rfl | hx
    · simp
    · rcases hv with e | ⟨g, e, hg⟩
      · rw [e] at hx; exact List.mem_cons_of_mem _ hx
      · rw [e] at hx
        have : x = g := by simpa using hx
        omega
  · rcases hv2 with e | ⟨g, e, hg⟩
    · rcases hv with e' | ⟨g, e', hg⟩
      · exact .inl (e.trans e')
      · exact .inr ⟨g, e.trans e', hg⟩
    · exact .inr ⟨g, e, Nat.le_trans k.size hg⟩

set_option maxRecDepth 100000 in
set_option maxHeartbeats 2000000 in
theorem chunk_data (B b : Nat) (p : List UInt8) (c : Ck) (v : Value) (w : World) (h : Ct B w b p c v) (hB : B ≤ w.heap.size) (hl : c.inp.length + c.dat.length ≤ 1048576) (hleft : (c.left : Int) ≤ 9223372036854775807) :
    Calls Tryz.prog 91 #[.pointer (some ⟨b, 0, none⟩)] w fun e w' => e = .returned (.int .i64 (dataM c).2) ∧ Aft B w b p v (dataM c).1 w' := by
  have sz := S_size c.inp
  obtain ⟨_, c1, _, _, c4, _, _⟩ := h.at
  have hmin : min ((c.left : Nat) : Int) ((c.inp.length : Nat) : Int) = ((min c.left c.inp.length : Nat) : Int) := by omega
  have hd := data_eq c _ rfl
  have hn1 : min c.left c.inp.length ≤ c.left := Nat.min_le_left _ _
  have hn2 : min c.left c.inp.length ≤ c.inp.length := Nat.min_le_right _ _
  generalize min c.left c.inp.length = n at *
  obtain ⟨ad, o, hbd, hdo⟩ := h
  have ho : o.length ≤ c.dat.length := by rw [hdo]; simp
  have H := Lib.hid hbd
  have HB := Lib.hid hB
  have HD := Lib.hid hd
  have HDO := Lib.hid hdo
  clear hd hdo hbd hB
  have hx1 : (S c.inp).extract 0 n = S (c.inp.take n) := by rw [S_extract, List.drop_zero]
  have hx2 : (S c.inp).extract n c.inp.length = S (c.inp.drop n) := by rw [S_extract, List.take_length]
  have lt : (c.inp.take n).length = n := by rw [List.length_take]; omega
  have i0 : (0 : Int) ≤ (n : Int) := by omega
  have i1 : (n : Int) ≤ (c.inp.length : Int) := by omega
  go_enter Tryz.func91, Tryz.ntmps91
  go_upto_region 1 with fail
  go_cut [3] (fun y wx => y = .int .i64 (n : Nat) ∧ Hid (Keep [] w wx))
  case first =>
    go_region_with fail
    all_goals
      go_wp2_with fail
      go_meet
      exact ⟨rfl, Lib.hid (by repeat (first | exact Keep.refl _ _ | apply Keep.drew))⟩
  case rest =>
  obtain ⟨rfl, KX⟩ := hcut
  have H1 := Lib.hid (H.out.keep KX.out (by simp) (by simp))
  have K1 := Lib.hid KX.out
  clear c1 c4 hmin KX
  have c4 := H1.out.blk.get (k := 4) rfl
  have HW := Lib.hid (fun w2 (k2 : Keep [] wc w2) => bld_Write (c.inp.take n) (H1.out.keep k2 (by simp) (by simp)) ck_lies (Nat.le_trans (Nat.le_trans HB.out K1.out.size) k2.size) (by rw [lt]; omega))
  go_upto_region 2 with fail
  go_cut [] (fun wx => Hid (∃ v', Bd B wx b 5 107 (ckC c (.pointer (some ⟨b, 5, none⟩)) v') v' (o ++ c.inp.take n) ∧ Keep (b :: v.ownBlock.toList) w wx ∧ (v'.ownBlock = v.ownBlock ∨ ∃ g, v'.ownBlock = some g ∧ w.heap.size ≤ g)))
  case first =>
    go_region_with (first
      | (go_at_call 37; refine (HW.out _ (by repeat (first | exact Keep.refl _ _ | apply Keep.drew))).mono ?_; rintro e w2 ⟨rfl, v', hb', hk', hv'⟩; have HX := Lib.hid (And.intro hb' (And.intro hk' hv')); clear hb' hk' hv')
      | fail)
    all_goals
      go_wp2_with fail
      go_meet
      refine Lib.hid ?_
      obtain ⟨hb', hk', hv'⟩ := HX.out
      refine ⟨v', ?_, ?_, ?_⟩
      · exact hb'
      · refine Keep.trans' (Keep.mono (S' := b :: v.ownBlock.toList) (S := []) ?_ (by simp)) hk' (fun x hx _ => hx)
        repeat (first | exact K1.out | apply Keep.drew)
      · rcases hv' with e | ⟨g, e, hg⟩
        · exact .inl e
        · exact .inr ⟨g, e, Nat.le_trans K1.out.size hg⟩
  case rest =>
  have HC := hcut
  clear hcut H1 K1 c4 HW hx1
  obtain ⟨v', hb, hk, hv⟩ := HC.out
  have HN := Lib.hid (And.intro hb (And.intro hk hv))
  have c1 := hb.blk.get (k := 1) rfl
  have c4 := hb.blk.get (k := 4) rfl
  have c7 := hb.blk.get (k := 7) rfl
  have c0 := hb.blk.get (k := 0) rfl
  have f1 := hb.blk.frozen 1
  have f4 := hb.blk.frozen 4
  have f7 := hb.blk.frozen 7
  have f0 := hb.blk.frozen 0
  have w2 := IntWalk.i64_in ((c.dat.length : Int) + (n : Int)) (by omega)
  have ld : (c.dat ++ c.inp.take n).length = c.dat.length + n := by rw [List.length_append, lt]
  clear hb hk hv HC
  have e1 : ((c.left : Int) - (n : Int)) = ((c.left - n : Nat) : Int) := by omega
  have e7 : ((c.dat.length : Int) + (n : Int)) = ((c.dat.length + n : Nat) : Int) := by omega
  have hdat : c.dat ++ c.inp.take n = p ++ (o ++ c.inp.take n) := by rw [HDO.out, List.append_assoc]
  generalize hlf : c.left - n = lf at *
  have w1 := IntWalk.i64_in ((lf : Nat) : Int) (by omega)
  have HE := Lib.hid (And.intro e1 (And.intro e7 (And.intro ld hdat)))
  clear e7 ld hdat hlf
  by_cases h0 : 0 < lf
  · have hd := HD.out
    rw [if_pos h0] at hd
    have HF := Lib.hid hd
    have h0' : decide ((lf : Int) > 0) = true := by simp; omega
    clear hd HD
    go_wp2_with fail
    go_ret
    rw [HF.out]
    try rw [HE.out.2.1, ← HE.out.2.2.1]
    refine ⟨rfl, v', ⟨.pointer (some ⟨b, 5, none⟩), o ++ c.inp.take n, ?_, HE.out.2.2.2⟩, ((HN.out.2.1.setCell _ _ (by simp)).setCell _ _ (by simp)).setCell _ _ (by simp), HN.out.2.2⟩
    have := ((HN.out.1.set 4 (.string (S (c.inp.drop n))) (by omega) (by omega)).set 1 (.int .i64 ((lf : Nat) : Int)) (by omega) (by omega)).set 7 (.int .i64 ((c.dat.length : Int) + (n : Int))) (by omega) (by omega)
    rw [HE.out.2.1, ← HE.out.2.2.1] at this
    exact this
  · have hd := HD.out
    rw [if_neg h0] at hd
    have HF := Lib.hid hd
    have h0' : decide ((lf : Int) > 0) = false := by simp; omega
    clear hd HD
    go_wp2_with fail
    go_ret
    rw [HF.out]
    try rw [HE.out.2.1, ← HE.out.2.2.1]
    refine ⟨rfl, v', ⟨.pointer (some ⟨b, 5, none⟩), o ++ c.inp.take n, ?_, HE.out.2.2.2⟩, (((HN.out.2.1.setCell _ _ (by simp)).setCell _ _ (by simp)).setCell _ _ (by simp)).setCell _ _ (by simp), HN.out.2.2⟩
    have := (((HN.out.1.set 4 (.string (S (c.inp.drop n))) (by omega) (by omega)).set 1 (.int .i64 ((lf : Nat) : Int)) (by omega) (by omega)).set 7 (.int .i64 ((c.dat.length : Int) + (n : Int))) (by omega) (by omega)).set 0 (.int .i64 2) (by omega) (by omega)
    rw [HE.out.2.1, ← HE.out.2.2.1] at this
    exact this

set_option maxRecDepth 100000 in
set_option maxHeartbeats 2000000 in
theorem chunk_step (B b : Nat) (p : List UInt8) (c : Ck) (v : Value) (w : World) (hm : ML w) (hb : 0 ≠ b) (h : Ct B w b p c v) (hB : B ≤ w.heap.size) (hl : c.inp.length + c.dat.length ≤ 1048576) (hmost : (c.most : Int) ≤ 9223372036854775807) (hok : c.ok) :
    Calls Tryz.prog 72 #[.pointer (some ⟨b, 0, none⟩)] w fun e w' => e = .returned (.int .i64 (stepM c).2) ∧ Aft B w b p v (stepM c).1 w' := by
  obtain ⟨k1, k2, k3⟩ := hok
  obtain ⟨c0, _⟩ := h.at
  have hs : stepM c = if c.st = 0 then beginM c else if c.st = 1 then dataM c else if c.st = 2 then closeM c else if c.st = 3 then trailM c else (c, 17) := rfl
  by_cases h0 : c.st = 0
  · have HC := Lib.hid (chunk_begin B b p c v w hm hb h (by omega) hmost (by omega))
    rw [if_pos h0] at hs
    have HS := Lib.hid hs
    rw [h0] at c0
    clear hs h
    go_enter Tryz.func72, Tryz.ntmps72
    go_wp2_with fail
    refine HC.out.mono ?_
    rintro e w1 ⟨rfl, hx, hk⟩
    have HX := Lib.hid (Aft.of hx hk)
    clear hx hk
    go_wp2_with fail
    go_ret
    rw [HS.out]
    exact ⟨rfl, HX.out⟩
  by_cases h1 : c.st = 1
  · have HC := Lib.hid (chunk_data B b p c v w h hB hl (by omega))
    rw [if_neg h0, if_pos h1] at hs
    have HS := Lib.hid hs
    rw [h1] at c0
    clear hs h
    go_enter Tryz.func72, Tryz.ntmps72
    go_wp2_with fail
    refine HC.out.mono ?_
    rintro e w1 ⟨rfl, hx⟩
    have HX := Lib.hid hx
    clear hx
    go_wp2_with fail
    go_ret
    rw [HS.out]
    exact ⟨rfl, HX.out⟩
  by_cases h2 : c.st = 2
  · have HC := Lib.hid (chunk_close B b p c v w h (by omega))
    rw [if_neg h0, if_neg h1, if_pos h2] at hs
    have HS := Lib.hid hs
    rw [h2] at c0
    clear hs h
    go_enter Tryz.func72, Tryz.ntmps72
    go_wp2_with fail
    refine HC.out.mono ?_
    rintro e w1 ⟨rfl, hx, hk⟩
    have HX := Lib.hid (Aft.of hx hk)
    clear hx hk
    go_wp2_with fail
    go_ret
    rw [HS.out]
    exact ⟨rfl, HX.out⟩
  by_cases h3 : c.st = 3
  · have HC := Lib.hid (chunk_trailer B b p c v w hm hb h (by omega) k2)
    rw [if_neg h0, if_neg h1, if_neg h2, if_pos h3] at hs
    have HS := Lib.hid hs
    rw [h3] at c0
    clear hs h
    go_enter Tryz.func72, Tryz.ntmps72
    go_wp2_with fail
    refine HC.out.mono ?_
    rintro e w1 ⟨rfl, hx, hk⟩
    have HX := Lib.hid (Aft.of hx hk)
    clear hx hk
    go_wp2_with fail
    go_ret
    rw [HS.out]
    exact ⟨rfl, HX.out⟩
  · have h4 : c.st = 4 := by omega
    rw [if_neg h0, if_neg h1, if_neg h2, if_neg h3] at hs
    have HS := Lib.hid hs
    have HX := Lib.hid h
    rw [h4] at c0
    clear hs h
    go_enter Tryz.func72, Tryz.ntmps72
    go_wp2_with fail
    go_ret
    rw [HS.out]
    exact ⟨rfl, Aft.of HX.out (Keep.refl _ _)⟩
end Go.Proofs.YtdmffbefppjllaaGreatDoor

/- Layer 11: a builder that lies in another struct: String, Reset; a reader's New, Add, Take, Done, Rest, Size. No conditions but on lengths. -/
namespace Go.Proofs.YtdmffbefppjllaaGreatDoor
open Go.RowKit Go.Shelf

theorem keep_freeze {S : List Nat} {w w' : World} (h : Keep S w w') {p : Addr} (hp : p.block ∈ S) (n : Nat) : Keep S w (w'.freeze p n) := by
  refine h.trans ?_
  unfold World.freeze
  split
  · exact Keep.refl _ _
  · exact ⟨rfl, rfl, rfl, by simp, fun k hk hn => by
      simp only [Array.getElem?_modify]
      rw [if_neg (fun e => hn (by rw [← e]; exact hp))]⟩

set_option maxHeartbeats 8000000 in
set_option maxRecDepth 100000 in
theorem bld_String {B b o : Nat} {T : TypeId} {cs : List Value} {v : Value} {l : List UInt8} {w : World} (h : Bd B w b o T cs v l) :
    Calls Tryz.prog 39 #[.pointer (some ⟨b, o, none⟩)] w fun e w' => e = .returned (.string (S l)) ∧ Keep v.ownBlock.toList w w' := by
  have hown := h.own
  unfold Own at hown
  rw [rows_bytes] at hown
  have hu : Tryz.prog.underlying 99 = some (.pointer 5) := Tryz.underlying99
  have mixed : Tryz.prog.follows .mixedOrders = true := by kernel_rfl
  have c0 : w.cell? ⟨b, o + 1, none⟩ = some v := h.blk.get h.buf
  have c1 : w.drew.cell? ⟨b, o + 1, none⟩ = some v := c0
  rcases hown.2 with ⟨hv, hz⟩ | ⟨g, cap, cur, hv, hbg, hg, hnc, hcm, hcs, htake⟩
  · have hl0 : l = [] := List.eq_nil_of_length_eq_zero hz
    subst hv hl0
    have hUS := fun (W : World) (q : Option Addr) => Lib.run_unsafeString_none (P := Tryz.prog) W 99 3 9 q
    have hSD : (Builtin.unsafeSliceData_ #[75] 99 #[.slice none 0 0]).run Tryz.prog w.drew = .ok (.pointer none) w.drew := rfl
    clear hown h
    go_enter Tryz.func39, Tryz.ntmps39
    go_wp2_with fail
    go_region_o
    all_goals (go_wp2; go_ret; exact ⟨rfl, (Keep.refl _ _).drew⟩)
  · have hk := hown.cells (g := g)
    subst hv
    by_cases hl0 : l = []
    · subst hl0
      have hUS := fun (W : World) (q : Option Addr) => Lib.run_unsafeString_none (P := Tryz.prog) W 99 3 9 q
      by_cases hc0 : cap = 0
      · subst hc0
        have hbl := h.blk.lt
        have hSD : (Builtin.unsafeSliceData_ #[75] 99 #[.slice (some ⟨g, 0, none⟩) 0 0]).run Tryz.prog w.drew = .ok (.pointer (some ⟨w.drew.heap.size, 0, none⟩)) (w.drew.alloc (.view ⟨g, 0, none⟩ 5)) :=
          Lib.run_unsafeSliceData_zero w.drew _ _ 5 hu ⟨g, 0, none⟩ 0 (5, cur.size) (by have hg' : w.drew.heap[g]? = some (.cells cur 5 (0, 0)) := hg; simp [World.shape?, hg'])
        have c2 : (w.drew.alloc (.view ⟨g, 0, none⟩ 5)).cell? ⟨b, o + 1, none⟩ = some (.slice (some ⟨g, 0, none⟩) 0 0) := ((((Keep.refl [] w).drew).alloc _).blk h.blk (by simp)).get h.buf
        have c3 : (w.alloc (.view ⟨g, 0, none⟩ 5)).drew.cell? ⟨b, o + 1, none⟩ = some (.slice (some ⟨g, 0, none⟩) 0 0) := c2
        clear hown h hk
        go_enter Tryz.func39, Tryz.ntmps39
        go_wp2_with fail
        go_region_o
        all_goals (go_wp2; go_ret; exact ⟨rfl, ((Keep.refl _ _).drew).alloc _⟩)
      · have hSD : (Builtin.unsafeSliceData_ #[75] 99 #[.slice (some ⟨g, 0, none⟩) 0 cap]).run Tryz.prog w.drew = .ok (.pointer (some ⟨g, 0, none⟩)) w.drew :=
          Lib.run_unsafeSliceData_row _ _ _ _ _ _ hc0
        clear hown h hk hc0
        go_enter Tryz.func39, Tryz.ntmps39
        go_wp2_with fail
        go_region_o
        all_goals (go_wp2; go_ret; exact ⟨rfl, (Keep.refl _ _).drew⟩)
    · have hll : l.length ≠ 0 := by simpa using hl0
      have hSD : (Builtin.unsafeSliceData_ #[75] 99 #[.slice (some ⟨g, 0, none⟩) l.length cap]).run Tryz.prog w.drew = .ok (.pointer (some ⟨g, 0, none⟩)) w.drew :=
        Lib.run_unsafeSliceData_row _ _ _ _ _ _ (by omega)
      have hUS : (Builtin.unsafeString_ #[99, 3] 9 #[.pointer (some ⟨g, 0, none⟩), .int .i64 l.length]).run Tryz.prog w.drew = .ok (.string (S l)) (w.drew.freeze ⟨g, 0, none⟩ l.length) := by
        refine Lib.run_unsafeString_row w.drew 99 3 9 5 hu (by kernel_rfl) g cur.size (by have hg' : w.drew.heap[g]? = some (.cells cur 5 (0, 0)) := hg; simp [World.shape?, hg']) l hl0 (by omega) (by unfold maxLen at hcm; omega) ?_
        intro j x hx
        have := hk rfl j (.int .u8 x.toNat) (by simp [Lib.byteCells, hx])
        exact this
      clear hown h hk hll hl0
      go_enter Tryz.func39, Tryz.ntmps39
      go_wp2_with fail
      go_region_o
      all_goals (go_wp2; go_ret; exact ⟨rfl, keep_freeze ((Keep.refl _ _).drew) (by simp [Value.ownBlock]) _⟩)

set_option maxHeartbeats 2000000 in
set_option maxRecDepth 100000 in
theorem bld_Reset {b o : Nat} {T : TypeId} {cs : List Value} {w : World} (h : Blk w b T cs) (ho : o + 1 < cs.length) :
    Calls Tryz.prog 95 #[.pointer (some ⟨b, o, none⟩)] w fun e w' => e = .returned (.tuple #[]) ∧ Blk w' b T ((cs.set o (.pointer none)).set (o + 1) (.slice none 0 0)) ∧ Keep [b] w w' := by
  obtain ⟨x, hx⟩ : ∃ x, cs[o]? = some x := ⟨_, List.getElem?_eq_getElem (by omega)⟩
  obtain ⟨y, hy⟩ : ∃ y, cs[o + 1]? = some y := ⟨_, List.getElem?_eq_getElem (by omega)⟩
  have c0 := h.get hx
  have f0 := h.frozen o
  have h1 := h.set o (.pointer none)
  have c1 := h1.get (k := o + 1) (v := y) (by rw [List.getElem?_set_ne (by omega)]; exact hy)
  have f1 := h1.frozen (o + 1)
  have H := Lib.hid (h1.set (o + 1) (.slice none 0 0))
  clear h h1
  go_enter Tryz.func95, Tryz.ntmps95
  go_wp2_with fail
  go_end0
  exact ⟨rfl, H.out, ((Keep.refl _ _).setCell _ _ (by simp)).setCell _ _ (by simp)⟩

def ck0 (most : Int) : Ck := ⟨0, 0, (max most 0).toNat, 0, [], [], 0⟩
theorem ck0_ok (m : Int) : (ck0 m).ok := ⟨by simp [ck0], by simp [ck0], by simp [ck0]⟩
set_option maxHeartbeats 2000000 in
set_option maxRecDepth 100000 in
theorem chunk_New (B : Nat) (m : Int) (w : World) (_hB : B ≤ w.heap.size) :
    Calls Tryz.prog 50 #[.int .i64 m] w fun e w' => ∃ b, e = .returned (.pointer (some ⟨b, 0, none⟩)) ∧ w.heap.size ≤ b ∧ b < w'.heap.size ∧ Ct B w' b [] (ck0 m) (.slice none 0 0) ∧ Keep [] w w' := by
  have hmx : max m 0 = (((max m 0).toNat : Nat) : Int) := by omega
  have hbk := Blk.newA w (ckC (ck0 m) (.pointer none) (.slice none 0 0)).toArray 107
  have H := Lib.hid hbk
  have HM := Lib.hid hmx
  have hmx2 : max m 0 = ((ck0 m).most : Int) := hmx
  generalize hmm : (ck0 m).most = k at *
  clear hbk hmx
  go_enter Tryz.func50, Tryz.ntmps50
  go_wp2_with fail
  go_ret
  refine ⟨w.heap.size, rfl, Nat.le_refl _, by simp, ⟨.pointer none, [], ⟨?_, .inl rfl, rfl, Own.nil _ _ _ _ _, by simp [Value.ownBlock]⟩, rfl⟩, (Keep.refl [] w).alloc _⟩
  have := H.out
  subst hmm
  exact this

set_option maxHeartbeats 1000000 in
set_option maxRecDepth 100000 in
theorem chunk_Done {B b : Nat} {p : List UInt8} {c : Ck} {v : Value} {w : World} (h : Ct B w b p c v) (_ : c.st ≤ 4) :
    Calls Tryz.prog 53 #[.pointer (some ⟨b, 0, none⟩)] w fun e w' => e = .returned (.bool (decide (c.st = 4))) ∧ w = w' := by
  obtain ⟨c0, _⟩ := h.at
  clear h
  by_cases h4 : c.st = 4
  · rw [h4] at c0
    go_enter Tryz.func53, Tryz.ntmps53
    go_wp2_with fail
    go_ret
    exact ⟨by simp [h4], rfl⟩
  · have h4' := (nat_ne (show c.st ≠ 4 from h4)).1
    have h5 := (int_ne (show ((c.st : Nat) : Int) ≠ 4 by omega)).1
    have h6 : decide (c.st = 4) = false := by simp [h4]
    have HF := Lib.hid h6
    generalize c.st = st at *
    go_enter Tryz.func53, Tryz.ntmps53
    go_wp2_with fail
    go_ret
    exact ⟨ret_bool (by simp [h4]), rfl⟩
set_option maxHeartbeats 1000000 in
set_option maxRecDepth 100000 in
theorem chunk_Rest {B b : Nat} {p : List UInt8} {c : Ck} {v : Value} {w : World} (h : Ct B w b p c v) (hs : c.st ≤ 4) :
    Calls Tryz.prog 54 #[.pointer (some ⟨b, 0, none⟩)] w fun e w' => e = .returned (.string (S (if c.st = 4 then c.inp else []))) ∧ w = w' := by
  have HD := Lib.hid (chunk_Done h hs)
  obtain ⟨_, _, _, _, c4, _, _⟩ := h.at
  clear h
  by_cases h4 : c.st = 4
  · rw [decide_eq_true h4] at HD
    rw [if_pos h4]
    go_enter Tryz.func54, Tryz.ntmps54
    go_wp2_with fail
    refine HD.out.mono ?_
    rintro e w1 ⟨rfl, rfl⟩
    go_wp2_with fail
    go_ret
    exact ⟨rfl, rfl⟩
  · rw [decide_eq_false h4] at HD
    rw [if_neg h4]
    go_enter Tryz.func54, Tryz.ntmps54
    go_wp2_with fail
    refine HD.out.mono ?_
    rintro e w1 ⟨rfl, rfl⟩
    go_wp2_with fail
    go_ret
    exact ⟨rfl, rfl⟩
set_option maxHeartbeats 2000000 in
set_option maxRecDepth 100000 in
theorem chunk_Take {B b : Nat} {p : List UInt8} {c : Ck} {v : Value} {w : World} (h : Ct B w b p c v) :
    Calls Tryz.prog 78 #[.pointer (some ⟨b, 0, none⟩)] w fun e w' => ∃ o, e = .returned (.string (S o)) ∧ c.dat = p ++ o ∧ Ct B w' b c.dat c (.slice none 0 0) ∧ Keep (b :: v.ownBlock.toList) w w' := by
  obtain ⟨ad, o, hb, hd⟩ := h
  have HS := Lib.hid (bld_String hb)
  have HB := Lib.hid hb
  have HD := Lib.hid hd
  clear hb hd
  go_enter Tryz.func78, Tryz.ntmps78
  go_wp2_with fail
  refine HS.out.mono ?_
  rintro e w1 ⟨rfl, k1⟩
  have hb1 : Blk w1 b 107 (ckC c ad v) := k1.blk HB.out.blk (by
    intro hh
    have := HB.out.ne
    simp at hh
    exact this hh)
  have HR := Lib.hid (bld_Reset (o := 5) hb1 (show 5 + 1 < 9 by decide))
  have K1 := Lib.hid (k1.mono (S' := b :: v.ownBlock.toList) (fun x hx _ => List.mem_cons_of_mem _ hx))
  clear k1 hb1
  go_wp2_with fail
  refine HR.out.mono ?_
  rintro e w2 ⟨rfl, hb2, k2⟩
  have HB2 := Lib.hid hb2
  have K2 := Lib.hid (K1.out.trans' k2 (fun x hx _ => by simp at hx; simp [hx]))
  clear hb2 k2
  go_wp2_with fail
  go_ret
  refine ⟨o, rfl, HD.out, ⟨.pointer none, [], ⟨HB2.out, .inl rfl, rfl, Own.nil _ _ _ _ _, by simp [Value.ownBlock]⟩, by simp⟩, K2.out⟩

/-- what Add comes to -/
def AddR (c : Ck) (s : List UInt8) (c' : Ck) : Prop := if c.err ≠ 0 then c' = c else ∃ d e, Runs (c.add s) d e ∧ c' = { d with err := if e = 17 then 0 else e }
theorem add_ok {c : Ck} (h : c.ok) (s : List UInt8) : (c.add s).ok := h

set_option maxHeartbeats 2000000 in
set_option maxRecDepth 100000 in
theorem chunk_Add (B b : Nat) (p s : List UInt8) (c c' : Ck) (v : Value) (w : World) (hm : ML w) (hb : 0 ≠ b) (h : Ct B w b p c v) (hB : B ≤ w.heap.size) (hbig : 0 < B) (hl : c.inp.length + c.dat.length + s.length ≤ 1048576) (hmost : (c.most : Int) ≤ 9223372036854775807) (hok : c.err = 0 → c.ok) (ha : AddR c s c') :
    Calls Tryz.prog 52 #[.pointer (some ⟨b, 0, none⟩), .string (S s)] w fun e w' => e = .returned (.int .i64 c'.err) ∧ Aft B w b p v c' w' := by
  obtain ⟨_, _, _, _, c4, _, c8⟩ := h.at
  unfold AddR at ha
  by_cases he : c.err = 0
  · rw [if_neg (by simp [he])] at ha
    obtain ⟨d, e0, hr, hc'⟩ := ha
    have s1 := S_size c.inp
    have s2 := S_size s
    have hcat := S_append c.inp s
    have lc : (c.inp ++ s).length = c.inp.length + s.length := by simp
    have f4 := h.free 4
    have hko := hok he
    have hro := runs_ok hr (add_ok hko s)
    have hderr : d.err = 0 := hro.2.2.1.trans he
    have H1 := Lib.hid (h.set 4 (.string (S (c.inp ++ s))) (c' := c.add s) (fun _ => rfl) rfl)
    have K1 := Lib.hid ((Keep.refl [b] w).setCell ⟨b, 4, none⟩ (.string (S (c.inp ++ s))) (by simp))
    have HR := Lib.hid hr
    have HM := Lib.hid hm
    rw [he] at c8
    clear h hr hok hm hro
    go_enter Tryz.func52, Tryz.ntmps52
    go_wp2_with fail
    go_step3
    go_wp2_with fail
    go_step3
    go_wp2_with fail
    generalize hw1 : w.setCell ⟨b, 4, none⟩ (.string (S (c.inp ++ s))) = w1 at *
    try rw [hw1]
    clear hw1 c4 c8 f4
    go_loopg [5] (c.add s).mu (fun g ev wr => ∃ cur : Ck, g = cur.mu ∧ Hid (Aft B w b p v cur wr) ∧ Hid (Runs cur d e0) ∧ Hid (cur.ok) ∧ Hid (cur.inp.length + cur.dat.length ≤ 1048576 ∧ cur.most = c.most ∧ cur.err = 0))
    case atStart => exact ⟨c.add s, rfl, Lib.hid (Aft.of H1.out K1.out), HR, Lib.hid hko, Lib.hid ⟨by show (c.inp ++ s).length + c.dat.length ≤ _; omega, rfl, he⟩⟩
    case round =>
      obtain ⟨cur, hg, HA, HRu, HK, HL⟩ := hrel
      obtain ⟨v1, hct, hk, hv⟩ := HA.out
      obtain ⟨hl1, hmo, hce⟩ := HL.out
      have hso := step_ok HK.out
      have hS := chunk_step B b p cur v1 wr (by
        obtain ⟨x, hx⟩ := HM.out
        exact (ML.keep ⟨x, hx⟩ hk (by
          simp only [List.mem_cons, not_or]
          refine ⟨hb, fun hh => ?_⟩
          have : v.ownBlock = some 0 := by simpa using hh
          have hlt : B ≤ 0 := by
            obtain ⟨ad, o, hbd, _⟩ := H1.out
            exact (hbd.own.lt _ this).1
          omega))) hb hct (Nat.le_trans hB hk.size) hl1 (by rw [hmo]; exact hmost) HK.out
      have HS := Lib.hid hS
      have HCt := Lib.hid (And.intro hct (And.intro hk hv))
      have HRc := Lib.hid (show (stepM cur).2 = 0 ∧ Runs (stepM cur).1 d e0 ∨ (stepM cur).2 ≠ 0 ∧ d = (stepM cur).1 ∧ e0 = (stepM cur).2 by
        cases HRu.out with
        | stop hh => exact .inr ⟨hh, rfl, rfl⟩
        | more hh hh2 => exact .inl ⟨hh, hh2⟩)
      have HSo := Lib.hid hso
      generalize hst : stepM cur = sr at HS HRc HSo
      obtain ⟨nx, er⟩ := sr
      dsimp only at HS HRc HSo
      clear hso hS hct hk hv HA HRu hst hl1 hmo hce
      by_cases h0 : er = 0
      · subst h0
        have hR2 : Runs nx d e0 := by
          rcases HRc.out with hh | hh
          · exact hh.2
          · exact absurd rfl hh.1
        have HR2 := Lib.hid hR2
        clear hR2
        go_wp2_with fail
        refine HS.out.mono ?_
        rintro e w2 ⟨rfl, v2, a1, a2, a3⟩
        have HA2 := Lib.hid (Aft.trans HCt.out.1 HCt.out.2.1 HCt.out.2.2 a1 a2 a3)
        clear a1 a2 a3
        go_wp2_with fail
        go_roundg nx.mu
        case measure => rw [hg]; exact HSo.out.1 (by first | rfl | trivial)
        case rel =>
          obtain ⟨q1, q2, q3, q4, q5, _⟩ := HSo.out
          exact ⟨nx, rfl, HA2, HR2, Lib.hid (q2 (.inl (by first | rfl | trivial))), Lib.hid ⟨Nat.le_trans q5 HL.out.1, q3.trans HL.out.2.1, q4.trans HL.out.2.2⟩⟩
      · have hde : d = nx ∧ e0 = er := by
          rcases HRc.out with hh | hh
          · exact absurd hh.1 h0
          · exact hh.2
        obtain ⟨rfl, rfl⟩ := hde
        by_cases h17 : e0 = 17
        · subst h17
          have HC := Lib.hid (show c' = d by rw [hc', if_pos rfl, ← hderr])
          clear hc'
          go_wp2_with fail
          refine HS.out.mono ?_
          rintro e w2 ⟨rfl, v2, a1, a2, a3⟩
          have HA2 := Lib.hid (Aft.trans HCt.out.1 HCt.out.2.1 HCt.out.2.2 a1 a2 a3)
          obtain ⟨_, _, _, _, _, _, e8⟩ := a1.at
          clear a1 a2 a3
          go_wp2_with fail
          rw [Exit.noGoto_ret]
          go_ret
          rw [HC.out]
          exact ⟨by rw [hderr]; rfl, HA2.out⟩
        · have q1 := (int_ne h0).1
          have q2 := (int_ne h17).1
          have HC := Lib.hid (show c' = { d with err := e0 } by rw [hc', if_neg h17])
          clear hc' h17 h0
          go_wp2_with fail
          refine HS.out.mono ?_
          rintro e w2 ⟨rfl, v2, a1, a2, a3⟩
          have HA2 := Lib.hid (Aft.trans HCt.out.1 HCt.out.2.1 HCt.out.2.2 a1 a2 a3)
          obtain ⟨_, _, _, _, _, _, e8⟩ := a1.at
          have g8 := a1.free 8
          clear a1 a2 a3
          go_wp2_with fail
          rw [Exit.noGoto_ret]
          go_ret
          obtain ⟨v3, a1, a2, a3⟩ := HA2.out
          rw [HC.out]
          exact ⟨rfl, v3, a1.set 8 _ (fun _ => rfl) rfl, a2.setCell _ _ (by simp), a3⟩
  · rw [if_pos he] at ha
    have q1 := (int_ne he).1
    have q2 := (int_ne he).2
    have H := Lib.hid h
    subst ha
    clear h
    go_enter Tryz.func52, Tryz.ntmps52
    go_wp2_with fail
    go_step3
    go_wp2_with fail
    rw [Exit.noGoto_ret]
    go_ret
    exact ⟨rfl, Aft.of H.out (Keep.refl _ _)⟩
end Go.Proofs.YtdmffbefppjllaaGreatDoor

/- Layer 11, plain laws: the document's line, number; the machine's steps one by one. No program. No conditions but those that each theorem states. -/
namespace Go.Proofs.YtdmffbefppjllaaGreatDoor
open Go.RowKit

theorem runs_step {c d : Ck} {e : Int} (h : Runs c d e) : (stepM c).2 = 0 ∧ Runs (stepM c).1 d e ∨ (stepM c).2 ≠ 0 ∧ d = (stepM c).1 ∧ e = (stepM c).2 := by
  cases h with
  | stop hh => exact .inr ⟨hh, rfl, rfl⟩
  | more hh hh2 => exact .inl ⟨hh, hh2⟩
theorem step0 {c : Ck} (h : c.st = 0) : stepM c = beginM c := by unfold stepM; rw [if_pos h]
theorem step1 {c : Ck} (h : c.st = 1) : stepM c = dataM c := by unfold stepM; rw [if_neg (by omega), if_pos h]
theorem step2 {c : Ck} (h : c.st = 2) : stepM c = closeM c := by unfold stepM; rw [if_neg (by omega), if_neg (by omega), if_pos h]
theorem step3 {c : Ck} (h : c.st = 3) : stepM c = trailM c := by unfold stepM; rw [if_neg (by omega), if_neg (by omega), if_neg (by omega), if_pos h]
theorem step4 {c : Ck} (h : c.st = 4) : stepM c = (c, 17) := by unfold stepM; rw [if_neg (by omega), if_neg (by omega), if_neg (by omega), if_neg (by omega)]
theorem runs_eq {c d : Ck} {e : Int} {r : Ck × Int} (h : Runs c d e) (hs : stepM c = r) : r.2 = 0 ∧ Runs r.1 d e ∨ r.2 ≠ 0 ∧ d = r.1 ∧ e = r.2 := by rw [← hs]; exact runs_step h
/-- a chunk's line -/
theorem runs_begin {c d : Ck} {e : Int} (h : Runs c d e) (h0 : c.st = 0) :
    ((lnC c.inp).e ≠ 0 ∧ d = c ∧ e = (lnC c.inp).e) ∨
    ((lnC c.inp).e = 0 ∧ numE (lnC c.inp).t ((c.most : Int) - c.dat.length) ≠ 0 ∧ d = { c with inp := (lnC c.inp).r } ∧ e = numE (lnC c.inp).t ((c.most : Int) - c.dat.length)) ∨
    ((lnC c.inp).e = 0 ∧ numE (lnC c.inp).t ((c.most : Int) - c.dat.length) = 0 ∧ Runs { c with inp := (lnC c.inp).r, left := (numV (lnC c.inp).t ((c.most : Int) - c.dat.length)).toNat, st := if numV (lnC c.inp).t ((c.most : Int) - c.dat.length) = 0 then 3 else 1 } d e) := by
  have hr := runs_eq h (step0 h0)
  unfold beginM at hr
  by_cases h1 : (lnC c.inp).e = 0
  · rw [if_neg (by simp [h1])] at hr
    by_cases h2 : numE (lnC c.inp).t ((c.most : Int) - c.dat.length) = 0
    · rw [if_neg (by simp [h2])] at hr
      rcases hr with hr | hr
      · exact .inr (.inr ⟨h1, h2, hr.2⟩)
      · exact absurd rfl hr.1
    · rw [if_pos h2] at hr
      rcases hr with hr | hr
      · exact absurd hr.1 h2
      · exact .inr (.inl ⟨h1, h2, hr.2⟩)
  · rw [if_pos h1] at hr
    rcases hr with hr | hr
    · exact absurd hr.1 h1
    · exact .inl ⟨h1, hr.2⟩
/-- a chunk's data -/
theorem runs_data {c d : Ck} {e : Int} (h : Runs c d e) (h0 : c.st = 1) :
    (c.inp.length < c.left ∧ d = { c with inp := [], dat := c.dat ++ c.inp, left := c.left - c.inp.length } ∧ e = 17) ∨
    (c.left ≤ c.inp.length ∧ Runs { c with inp := c.inp.drop c.left, dat := c.dat ++ c.inp.take c.left, left := 0, st := 2 } d e) := by
  have hr := runs_eq h (step1 h0)
  unfold dataM at hr
  by_cases h1 : c.inp.length < c.left
  · have hm : min c.left c.inp.length = c.inp.length := by omega
    rw [hm, if_pos (by omega), List.drop_length, List.take_length] at hr
    rcases hr with hr | hr
    · have := hr.1; simp at this
    · exact .inl ⟨h1, hr.2⟩
  · have hm : min c.left c.inp.length = c.left := by omega
    rw [hm, if_neg (by omega), Nat.sub_self] at hr
    rcases hr with hr | hr
    · exact .inr ⟨by omega, hr.2⟩
    · exact absurd rfl hr.1
/-- what follows a chunk's data -/
theorem runs_close {c d : Ck} {e : Int} (h : Runs c d e) (h0 : c.st = 2) :
    (c.inp.take 2 ≠ crlfC.take c.inp.length ∧ d = c ∧ e = 3) ∨
    (c.inp.take 2 = crlfC.take c.inp.length ∧ c.inp.length < 2 ∧ d = c ∧ e = 17) ∨
    (c.inp.take 2 = crlfC.take c.inp.length ∧ 2 ≤ c.inp.length ∧ Runs { c with inp := c.inp.drop 2, st := 0 } d e) := by
  have hr := runs_eq h (step2 h0)
  unfold closeM at hr
  by_cases h1 : c.inp.take 2 = crlfC.take c.inp.length
  · rw [if_neg (by simp [h1])] at hr
    by_cases h2 : c.inp.length < 2
    · rw [if_pos h2] at hr
      rcases hr with hr | hr
      · have := hr.1; simp at this
      · exact .inr (.inl ⟨h1, h2, hr.2⟩)
    · rw [if_neg h2] at hr
      rcases hr with hr | hr
      · exact .inr (.inr ⟨h1, by omega, hr.2⟩)
      · exact absurd rfl hr.1
  · rw [if_pos h1] at hr
    rcases hr with hr | hr
    · have := hr.1; simp at this
    · exact .inl ⟨h1, hr.2⟩
/-- a line behind the last chunk -/
theorem runs_trail {c d : Ck} {e : Int} (h : Runs c d e) (h0 : c.st = 3) :
    ((lnC c.inp).e ≠ 0 ∧ d = c ∧ e = (lnC c.inp).e) ∨
    ((lnC c.inp).e = 0 ∧ (lnC c.inp).t = [] ∧ d = { c with inp := (lnC c.inp).r, st := 4 } ∧ e = 17) ∨
    ((lnC c.inp).e = 0 ∧ (lnC c.inp).t ≠ [] ∧ parseE (lnC c.inp).t ≠ 0 ∧ d = { c with inp := (lnC c.inp).r } ∧ e = 3) ∨
    ((lnC c.inp).e = 0 ∧ (lnC c.inp).t ≠ [] ∧ parseE (lnC c.inp).t = 0 ∧ 16 ≤ c.flds ∧ d = { c with inp := (lnC c.inp).r, flds := c.flds + 1 } ∧ e = 4) ∨
    ((lnC c.inp).e = 0 ∧ (lnC c.inp).t ≠ [] ∧ parseE (lnC c.inp).t = 0 ∧ c.flds < 16 ∧ Runs { c with inp := (lnC c.inp).r, flds := c.flds + 1 } d e) := by
  have hr := runs_eq h (step3 h0)
  unfold trailM at hr
  by_cases h1 : (lnC c.inp).e = 0
  · rw [if_neg (by simp [h1])] at hr
    by_cases h2 : (lnC c.inp).t = []
    · rw [if_pos h2] at hr
      rcases hr with hr | hr
      · have hq := runs_eq hr.2 (step4 rfl)
        rcases hq with hq | hq
        · have := hq.1; simp at this
        · exact .inr (.inl ⟨h1, h2, hq.2⟩)
      · exact absurd rfl hr.1
    · rw [if_neg h2] at hr
      by_cases h3 : parseE (lnC c.inp).t = 0
      · rw [if_neg (by simp [h3])] at hr
        by_cases h4 : 16 < c.flds + 1
        · rw [if_pos h4] at hr
          rcases hr with hr | hr
          · have := hr.1; simp at this
          · exact .inr (.inr (.inr (.inl ⟨h1, h2, h3, by omega, hr.2⟩)))
        · rw [if_neg h4] at hr
          rcases hr with hr | hr
          · exact .inr (.inr (.inr (.inr ⟨h1, h2, h3, by omega, hr.2⟩)))
          · exact absurd rfl hr.1
      · rw [if_pos h3] at hr
        rcases hr with hr | hr
        · exact absurd hr.1 h3
        · have h5 : parseE (lnC c.inp).t = 3 := by rcases parseE_cases (lnC c.inp).t with h | h; exact absurd h h3; exact h
          exact .inr (.inr (.inl ⟨h1, h2, h3, hr.2.1, hr.2.2.trans h5⟩))
  · rw [if_pos h1] at hr
    rcases hr with hr | hr
    · exact absurd hr.1 h1
    · exact .inl ⟨h1, hr.2⟩

theorem suffix_crlf {l : List UInt8} {k : Nat} (h : l[k]? = some 10) : Lib.hasSuffix (l.take (k + 1)) crlfC = (decide (0 < k) && decide (l[k - 1]? = some 13)) := by
  unfold Lib.hasSuffix
  rw [Bool.eq_iff_iff, List.isSuffixOf_iff_suffix]
  have e1 : l.take (k + 1) = l.take k ++ [10] := take_snoc h
  rw [e1]
  cases k with
  | zero =>
    simp
    intro hs
    have := hs.length_le
    simp [crlfC] at this
  | succ j =>
    have hj : j < l.length := by have := (List.getElem?_eq_some_iff.1 h).1; omega
    obtain ⟨x, hx⟩ : ∃ x, l[j]? = some x := ⟨_, List.getElem?_eq_getElem hj⟩
    rw [take_snoc hx]
    have hs : (l.take j ++ [x] ++ [10] : List UInt8) = l.take j ++ [x, 10] := by simp
    rw [hs, show j + 1 - 1 = j by omega, hx]
    simp
    constructor
    · rintro ⟨p, hp⟩
      have := (List.append_inj' hp (by simp [crlfC])).2
      have h2 : (13 : UInt8) = x := by simpa [crlfC] using this
      exact h2.symm
    · rintro rfl
      exact ⟨l.take j, rfl⟩
/-- the place behind a line -/
def nxt (s : List UInt8) (a : Nat) : Nat := if (lnC (s.drop a)).e = 0 then s.length - (lnC (s.drop a)).r.length else 0
theorem ln_suffix (l : List UInt8) : (lnC l).r <:+ l := by
  rcases line_cases l with hn | ⟨k, hk, hkl, h256⟩
  · rw [line_short hn]; split <;> exact List.suffix_refl _
  · rw [line_at hk]
    split
    · exact List.drop_suffix _ _
    · exact List.suffix_refl _
theorem drop_of_suffix {s r : List UInt8} (h : r <:+ s) : s.drop (s.length - r.length) = r := by
  obtain ⟨p, rfl⟩ := h
  simp
theorem nxt_drop {s : List UInt8} {a : Nat} (h : (lnC (s.drop a)).e = 0) : s.drop (nxt s a) = (lnC (s.drop a)).r ∧ nxt s a ≤ s.length ∧ (a ≤ s.length → a + 2 ≤ nxt s a) := by
  have h1 := ln_suffix (s.drop a)
  have h2 := line_le (s.drop a)
  have h3 := h2.2.1 h
  rw [List.length_drop] at h3
  have hl := h1.length_le
  rw [List.length_drop] at hl
  unfold nxt
  rw [if_pos h]
  exact ⟨drop_of_suffix (h1.trans (List.drop_suffix _ _)), by omega, fun _ => by omega⟩
theorem dig_mem (b : UInt8) : digitsB.contains b = digOk b := by
  have : ∀ n : Fin 256, digitsB.contains (UInt8.ofNat n.1) = digOk (UInt8.ofNat n.1) := by decide +kernel
  have h := this ⟨b.toNat, b.toNat_lt⟩
  simpa using h
theorem numRest_at {t : List UInt8} {k : Nat} (hk : k ≤ t.length) (h1 : (t.take k).all digOk = true) (h2 : ∀ b, t[k]? = some b → digOk b = false) : numRest t = t.drop k := by
  unfold numRest
  refine Lib.trimLeftS_drop t digitsB k hk (fun j b hj hb => ?_) (fun b hb => ?_)
  · rw [dig_mem]
    exact List.all_eq_true.1 h1 b (List.mem_of_getElem? (i := j) (by rw [List.getElem?_take, if_pos hj]; exact hb))
  · rw [dig_mem]; exact h2 b hb
theorem num_len' (t : List UInt8) : (numRest t).length ≤ t.length := by unfold numRest Lib.trimLeftS; exact List.Sublist.length_le (List.dropWhile_sublist _)
theorem numT_at {t : List UInt8} {k : Nat} (hk : k ≤ t.length) (h : numRest t = t.drop k) : numT t = t.take k := by
  unfold numT
  rw [h, List.length_drop, show t.length - (t.length - k) = k by omega]
theorem sep_mem (b : UInt8) : decide (0 ≤ Lib.indexByte [32, 9, 59] b) = (decide (b = 32) || decide (b = 9) || decide (b = 59)) := by
  have : ∀ n : Fin 256, decide (0 ≤ Lib.indexByte [32, 9, 59] (UInt8.ofNat n.1)) = (decide (UInt8.ofNat n.1 = 32) || decide (UInt8.ofNat n.1 = 9) || decide (UInt8.ofNat n.1 = 59)) := by decide +kernel
  have h := this ⟨b.toNat, b.toNat_lt⟩
  simpa using h
/-- the document's number -/
def numV2 (t : List UInt8) (m : Int) : Int := if restOk (numRest t) then unhexV (numT t) m else 0

/-- what a body comes to: data, whether whole, how long the whole, error -/
structure Bdy where
  dat : List UInt8
  done : Bool
  size : Nat
  err : Int
def Bdy.cells (b : Bdy) : List Value := [.string (S b.dat), .bool b.done, .int .i64 (b.size : Nat), .int .i64 b.err]
def bodyOf (s : List UInt8) (d : Ck) (e : Int) : Bdy := ⟨d.dat, decide (d.st = 4), if d.st = 4 then s.length - d.inp.length else 0, if e = 17 then 0 else e⟩
def endB (b : Bdy) (e : Int) : Bdy := { b with err := if e = 17 then b.err else e }
end Go.Proofs.YtdmffbefppjllaaGreatDoor

/- Layer 11, plain laws: bytes that come piece by piece. No program. No conditions but those that each theorem states. -/
namespace Go.Proofs.YtdmffbefppjllaaGreatDoor
open Go.RowKit

theorem step_suffix (c : Ck) : (stepM c).1.inp <:+ c.inp := by
  have hl := ln_suffix c.inp
  unfold stepM
  split
  · unfold beginM; split
    · exact List.suffix_refl _
    · split <;> exact hl
  split
  · unfold dataM; split <;> exact List.drop_suffix _ _
  split
  · unfold closeM; split
    · exact List.suffix_refl _
    · split
      · exact List.suffix_refl _
      · exact List.drop_suffix _ _
  split
  · unfold trailM; split
    · exact List.suffix_refl _
    · split
      · exact hl
      · split <;> exact hl
  · exact List.suffix_refl _
theorem runs_suffix {c d : Ck} {e : Int} (h : Runs c d e) : d.inp <:+ c.inp := by
  induction h with
  | stop _ => exact step_suffix _
  | more _ _ ih => exact ih.trans (step_suffix _)
theorem step_st (c : Ck) (h : c.st ≤ 4) : (stepM c).1.st ≤ 4 ∧ ((stepM c).1.st = 4 → (stepM c).2 = 0 ∨ (stepM c).2 = 17) := by
  unfold stepM
  split
  · unfold beginM; split
    · exact ⟨h, fun hh => by simp only at hh; omega⟩
    · split
      · exact ⟨h, fun hh => by simp only at hh; omega⟩
      · exact ⟨by simp only; split <;> omega, fun _ => .inl rfl⟩
  split
  · unfold dataM; split
    · exact ⟨h, fun _ => .inr rfl⟩
    · exact ⟨by simp only; omega, fun _ => .inl rfl⟩
  split
  · unfold closeM; split
    · exact ⟨h, fun hh => by simp only at hh; omega⟩
    · split
      · exact ⟨h, fun _ => .inr rfl⟩
      · exact ⟨by simp only; omega, fun _ => .inl rfl⟩
  split
  · unfold trailM; split
    · exact ⟨h, fun hh => by simp only at hh; omega⟩
    · split
      · exact ⟨by simp only; omega, fun _ => .inl rfl⟩
      · split
        · exact ⟨h, fun hh => by simp only at hh; omega⟩
        · exact ⟨h, fun hh => by simp only at hh; omega⟩
  · exact ⟨h, fun _ => .inr rfl⟩
theorem runs_st {c d : Ck} {e : Int} (h : Runs c d e) (hc : c.st ≤ 4) : d.st ≤ 4 ∧ (d.st = 4 → e = 17) := by
  induction h with
  | stop hh => have := step_st _ hc; exact ⟨this.1, fun h4 => by rcases this.2 h4 with h | h; exact absurd h hh; exact h⟩
  | more _ _ ih => exact ih (step_st _ hc).1
/-- what a reader is behind all bytes -/
def Rdc (m : Int) (all : List UInt8) (c : Ck) : Prop := ∃ d e, Runs ((ck0 m).add all) d e ∧ c = { d with err := if e = 17 then 0 else e }
theorem rd_nil (m : Int) : Rdc m [] (ck0 m) := by
  refine ⟨ck0 m, 17, ?_, rfl⟩
  have h : stepM ((ck0 m).add []) = (ck0 m, 17) := by
    show beginM ⟨0, 0, (max m 0).toNat, 0, [], [], 0⟩ = _
    unfold beginM
    rw [if_pos (by show (lnC []).e ≠ 0; decide)]
    rfl
  have := Runs.stop (c := (ck0 m).add []) (by rw [h]; show (17 : Int) ≠ 0; decide)
  rw [h] at this
  exact this
theorem Rdc.mk' {m : Int} {all : List UInt8} {d : Ck} {e : Int} (h : Runs ((ck0 m).add all) d e) : Rdc m all { d with err := if e = 17 then 0 else e } := ⟨d, e, h, rfl⟩
theorem Rdc.sound {m : Int} {all : List UInt8} {c : Ck} (h : Rdc m all c) : (c.err = 0 → c.ok ∧ Runs ((ck0 m).add all) c 17) ∧ c.most = (max m 0).toNat ∧ c.inp.length + c.dat.length ≤ all.length ∧ c.st ≤ 4 ∧ (c.st = 4 → c.err = 0) ∧ c.inp <:+ all := by
  obtain ⟨d, e, hr, rfl⟩ := h
  have ho := runs_ok hr (add_ok (ck0_ok m) all)
  have hd : d.err = 0 := ho.2.2.1
  have hs := runs_st hr (show ((ck0 m).add all).st ≤ 4 by simp [Ck.add, ck0])
  have hx := runs_suffix hr
  refine ⟨fun h0 => ?_, ho.2.1, ?_, hs.1, fun h4 => ?_, ?_⟩
  · have he : e = 17 := by
      simp only at h0
      split at h0
      · assumption
      · exact absurd h0 (runs_ne hr)
    subst he
    have : ({ d with err := if (17 : Int) = 17 then 0 else 17 } : Ck) = d := by rw [if_pos rfl, ← hd]
    rw [this]
    exact ⟨ho.1 rfl, hr⟩
  · have := ho.2.2.2.1; simpa [Ck.add, ck0] using this
  · simp only; rw [if_pos (hs.2 h4)]
  · simpa [Ck.add, ck0] using hx
theorem Rdc.add {m : Int} {all s : List UInt8} {c c' : Ck} (h : Rdc m all c) (ha : AddR c s c') : (c.err = 0 → Rdc m (all ++ s) c') ∧ (c.err ≠ 0 → c' = c) := by
  unfold AddR at ha
  by_cases h0 : c.err = 0
  · rw [if_neg (by simp [h0])] at ha
    obtain ⟨d, e, hr, hc⟩ := ha
    have hq := (h.sound.1 h0).2
    have := (runs_app hq s).2 rfl d e hr
    refine ⟨fun _ => ⟨d, e, ?_, hc⟩, fun hh => absurd h0 hh⟩
    have ee : ((ck0 m).add all).add s = (ck0 m).add (all ++ s) := by simp [Ck.add]
    rw [← ee]; exact this
  · rw [if_pos h0] at ha
    exact ⟨fun hh => absurd hh h0, fun _ => ha⟩
theorem addR_ex (c : Ck) (s : List UInt8) (h : c.err = 0 → c.ok) : ∃ c', AddR c s c' := by
  unfold AddR
  by_cases h0 : c.err = 0
  · obtain ⟨d, e, hr⟩ := runs_ex (c.add s).mu (c.add s) (add_ok (h h0) s) (Nat.le_refl _)
    exact ⟨_, by rw [if_neg (by simp [h0])]; exact ⟨d, e, hr, rfl⟩⟩
  · exact ⟨c, by rw [if_pos h0]⟩
theorem Rdc.more {m : Int} {all : List UInt8} {c : Ck} (h : Rdc m all c) (s : List UInt8) : ∃ c', AddR c s c' := addR_ex c s (fun h0 => (h.sound.1 h0).1)
/-- the document's answer, of the reader -/
theorem Rdc.body {m : Int} {all : List UInt8} {c : Ck} (h : Rdc m all c) : ∃ d e, Runs ((ck0 m).add all) d e ∧ (bodyOf all d e).dat = c.dat ∧ (bodyOf all d e).done = decide (c.st = 4) ∧ (bodyOf all d e).size = (if c.st = 4 then all.length - c.inp.length else 0) ∧ (bodyOf all d e).err = c.err ∧ (c.st = 4 → all.drop (all.length - c.inp.length) = c.inp) := by
  have hs := h.sound
  obtain ⟨d, e, hr, rfl⟩ := h
  exact ⟨d, e, hr, rfl, rfl, rfl, rfl, fun _ => drop_of_suffix hs.2.2.2.2.2⟩
/-- with an error earlier, the error of all -/
theorem rd_prefix {m : Int} {all s : List UInt8} {c c' : Ck} (h : Rdc m all c) (he : c.err ≠ 0) (h' : Rdc m (all ++ s) c') : c'.err = c.err ∧ c'.dat = c.dat ∧ c'.st = c.st := by
  obtain ⟨d, e, hr, rfl⟩ := h
  obtain ⟨d', e', hr', rfl⟩ := h'
  have h17 : e ≠ 17 := by intro hh; subst hh; exact he rfl
  have := (runs_app hr s).1 h17
  have ee : ((ck0 m).add all).add s = (ck0 m).add (all ++ s) := by simp [Ck.add]
  rw [ee] at this
  obtain ⟨rfl, rfl⟩ := runs_det hr' this
  exact ⟨rfl, rfl, rfl⟩
theorem rd_det {m : Int} {all : List UInt8} {c c' : Ck} (h : Rdc m all c) (h' : Rdc m all c') : c = c' := by
  obtain ⟨d, e, hr, rfl⟩ := h
  obtain ⟨d', e', hr', rfl⟩ := h'
  obtain ⟨rfl, rfl⟩ := runs_det hr hr'
  rfl
/-- alike for who asks: the same error, data, end; without an error the same rest -/
def Like (a b : Ck) : Prop := b.err = a.err ∧ b.dat = a.dat ∧ b.st = a.st ∧ (a.err = 0 → b.inp = a.inp)
/-- pieces added one behind the other -/
def Rq (m : Int) (all : List UInt8) (c : Ck) : Prop := ∃ p s, all = p ++ s ∧ Rdc m p c ∧ (c.err = 0 → s = [])
theorem rq_nil (m : Int) : Rq m [] (ck0 m) := ⟨[], [], rfl, rd_nil m, fun _ => rfl⟩
theorem Rq.add {m : Int} {all s : List UInt8} {c c' : Ck} (h : Rq m all c) (ha : AddR c s c') : Rq m (all ++ s) c' := by
  obtain ⟨p, t, rfl, hr, hz⟩ := h
  have := hr.add ha
  by_cases h0 : c.err = 0
  · rw [hz h0]
    exact ⟨p ++ s, [], by simp, this.1 h0, fun _ => rfl⟩
  · have hc := this.2 h0
    subst hc
    exact ⟨p, t ++ s, by simp, hr, fun hh => absurd hh h0⟩
theorem Rq.sound {m : Int} {all : List UInt8} {c : Ck} (h : Rq m all c) : (c.err = 0 → c.ok) ∧ c.most = (max m 0).toNat ∧ c.inp.length + c.dat.length ≤ all.length ∧ c.st ≤ 4 := by
  obtain ⟨p, t, rfl, hr, hz⟩ := h
  have := hr.sound
  exact ⟨fun h0 => (this.1 h0).1, this.2.1, by rw [List.length_append]; omega, this.2.2.2.1⟩
theorem Rq.like {m : Int} {all : List UInt8} {a b : Ck} (ha : Rdc m all a) (hb : Rq m all b) : Like a b := by
  obtain ⟨p, t, rfl, hr, hz⟩ := hb
  by_cases h0 : b.err = 0
  · have := hz h0
    subst this
    rw [List.append_nil] at ha
    have := rd_det ha hr
    subst this
    exact ⟨rfl, rfl, rfl, fun _ => rfl⟩
  · obtain ⟨h1, h2, h3⟩ := rd_prefix hr h0 ha
    exact ⟨h1.symm, h2.symm, h3.symm, fun hh => absurd (h1.symm.trans hh) h0⟩
theorem Rdc.rq {m : Int} {all : List UInt8} {c : Ck} (h : Rdc m all c) : Rq m all c := ⟨all, [], by simp, h, fun _ => rfl⟩
theorem ckd_le {c : Ck} (h : c.ok) : c.dat.length ≤ c.most := by have := h.1; omega
theorem step_dat {c : Ck} (h : c.ok) : (stepM c).1.dat.length ≤ c.most := by
  have hm := (step_ok h).2.2.1
  have key : (stepM c).1.ok → (stepM c).1.dat.length ≤ c.most := fun hh => by have := ckd_le hh; omega
  unfold stepM at key hm ⊢
  split at key
  · rw [if_pos (by assumption)]; exact key (begin_ok h (by assumption)).2.1
  split at key
  · rw [if_neg (by assumption), if_pos (by assumption)]; exact key (data_ok h (by assumption)).2.1
  split at key
  · rw [if_neg (by assumption), if_neg (by assumption), if_pos (by assumption)]; exact key (close_ok h (by assumption)).2.1
  split at key
  · rw [if_neg (by assumption), if_neg (by assumption), if_neg (by assumption), if_pos (by assumption)]
    have : (trailM c).1.dat = c.dat := by
      unfold trailM
      split
      · rfl
      · split
        · rfl
        · split <;> rfl
    rw [this]; exact ckd_le h
  · rw [if_neg (by assumption), if_neg (by assumption), if_neg (by assumption), if_neg (by assumption)]; exact ckd_le h
theorem runs_dat {c d : Ck} {e : Int} (h : Runs c d e) (hc : c.ok) : d.dat.length ≤ c.most := by
  induction h with
  | stop hh => exact step_dat hc
  | more hh _ ih =>
    have hs := step_ok hc
    rw [← hs.2.2.1]
    exact ih (hs.2.1 (.inl hh))
theorem Rdc.dat {m : Int} {all : List UInt8} {c : Ck} (h : Rdc m all c) : c.dat.length ≤ (max m 0).toNat := by
  obtain ⟨d, e, hr, rfl⟩ := h
  exact runs_dat hr (add_ok (ck0_ok m) all)
end Go.Proofs.YtdmffbefppjllaaGreatDoor

/- Layer 11: a reader among others in memory. No conditions but on lengths. -/
namespace Go.Proofs.YtdmffbefppjllaaGreatDoor
open Go.RowKit Go.Shelf

/-- the reader's run, with so many steps at most -/
def runF : Nat → Ck → Ck × Int
  | 0, c => stepM c
  | n + 1, c => if (stepM c).2 = 0 then runF n (stepM c).1 else stepM c
theorem runF_runs : ∀ (n : Nat) (c : Ck), c.ok → c.mu ≤ n → Runs c (runF n c).1 (runF n c).2
  | n, c, h, hn => by
    by_cases h0 : (stepM c).2 = 0
    · have hs := step_ok h
      have hm := hs.1 h0
      match n, hn with
      | 0, hn => omega
      | n + 1, hn =>
        have hr := runF_runs n (stepM c).1 (hs.2.1 (.inl h0)) (by omega)
        rw [runF, if_pos h0]
        exact .more h0 hr
    · match n, hn with
      | 0, hn => rw [runF]; exact .stop h0
      | n + 1, hn => rw [runF, if_neg h0]; exact .stop h0
def addC (c : Ck) (s : List UInt8) : Ck := if c.err ≠ 0 then c else { (runF (c.add s).mu (c.add s)).1 with err := if (runF (c.add s).mu (c.add s)).2 = 17 then 0 else (runF (c.add s).mu (c.add s)).2 }
theorem addC_R {c : Ck} {s : List UInt8} (h : c.err = 0 → c.ok) : AddR c s (addC c s) := by
  unfold AddR addC
  by_cases h0 : c.err = 0
  · rw [if_neg (by simp [h0]), if_neg (by simp [h0])]
    exact ⟨_, _, runF_runs _ _ (add_ok (h h0) s) (Nat.le_refl _), rfl⟩
  · rw [if_pos h0, if_pos h0]


/-- a reader in memory: X: what its calls write -/
structure Cx (B : Nat) (w : World) (b : Nat) (X : List Nat) (p : List UInt8) (c : Ck) : Prop where
  at' : ∃ v, Ct B w b p c v ∧ ∀ g, v.ownBlock = some g → g ∈ X
  mem : b ∈ X
  lo : ∀ x ∈ X, B ≤ x ∧ x < w.heap.size
theorem Cx.keep {B b : Nat} {w w' : World} {X S : List Nat} {p : List UInt8} {c : Ck} (h : Cx B w b X p c) (k : Keep S w w') (hX : ∀ x ∈ X, x ∉ S) : Cx B w' b X p c := by
  obtain ⟨⟨v, h1, h2⟩, h3, h4⟩ := h
  exact ⟨⟨v, h1.keep k (hX b h3) (fun g hg => hX g (h2 g hg)), h2⟩, h3, fun x hx => ⟨(h4 x hx).1, Nat.lt_of_lt_of_le (h4 x hx).2 k.size⟩⟩
theorem Cx.keep0 {B b : Nat} {w w' : World} {X : List Nat} {p : List UInt8} {c : Ck} (h : Cx B w b X p c) (k : Keep [] w w') : Cx B w' b X p c := h.keep k (by simp)
theorem ML.keepB {B : Nat} {w w' : World} {X : List Nat} (hm : ML w) (hbig : 0 < B) (k : Keep X w w') (hX : ∀ x ∈ X, B ≤ x) : ML w' := hm.keep k (fun hh => absurd (hX _ hh) (by omega))
theorem ML.lt {w : World} (hm : ML w) : 0 < w.heap.size := let ⟨_, h⟩ := hm; World.block_lt_of_cell? w _ h
/-- what lies apart stays apart -/
theorem apart_new {w : World} {X X' Y : List Nat} (h : ∀ x ∈ X, x ∉ Y) (hn : ∀ x ∈ X', x ∈ X ∨ w.heap.size ≤ x) (hY : ∀ y ∈ Y, y < w.heap.size) : ∀ x ∈ X', x ∉ Y := fun x hx hy => by
  rcases hn x hx with h1 | h1
  · exact h x h1 hy
  · have := hY x hy; omega
theorem apart_symm {X Y : List Nat} (h : ∀ x ∈ X, x ∉ Y) : ∀ y ∈ Y, y ∉ X := fun y hy hx => h y hx hy
/-- seen from where the call began, nothing has changed -/
theorem Keep.above {w0 w w' : World} {X : List Nat} (h : Keep [] w0 w) (k : Keep X w w') (hX : ∀ x ∈ X, w0.heap.size ≤ x) : Keep [] w0 w' := h.trans' k (fun x hx hl => absurd (hX x hx) (by omega))
theorem cx_new (B : Nat) (m : Int) (w : World) (hB : B ≤ w.heap.size) :
    Calls Tryz.prog 50 #[.int .i64 m] w fun e w' => ∃ b, e = .returned (.pointer (some ⟨b, 0, none⟩)) ∧ w.heap.size ≤ b ∧ Cx B w' b [b] [] (ck0 m) ∧ Keep [] w w' := by
  refine (chunk_New B m w hB).mono ?_
  rintro e w' ⟨b, rfl, h1, h2, h3, h4⟩
  exact ⟨b, rfl, h1, ⟨⟨_, h3, by simp [Value.ownBlock]⟩, by simp, fun x hx => by simp at hx; subst hx; exact ⟨by omega, h2⟩⟩, h4⟩
theorem cx_add {B b : Nat} {X : List Nat} {p s : List UInt8} {c : Ck} {w : World} (h : Cx B w b X p c) (hm : ML w) (hbig : 0 < B) (hl : c.inp.length + c.dat.length + s.length ≤ 1048576) (hmost : (c.most : Int) ≤ 9223372036854775807) (hok : c.err = 0 → c.ok) :
    Calls Tryz.prog 52 #[.pointer (some ⟨b, 0, none⟩), .string (S s)] w fun e w' => e = .returned (.int .i64 (addC c s).err) ∧ ∃ X', Cx B w' b X' p (addC c s) ∧ Keep X w w' ∧ ∀ x ∈ X', x ∈ X ∨ w.heap.size ≤ x := by
  obtain ⟨⟨v, h1, h2⟩, h3, h4⟩ := h
  have hb := h4 b h3
  refine (chunk_Add B b p s c (addC c s) v w hm (by omega) h1 (by omega) hbig hl hmost hok (addC_R hok)).mono ?_
  rintro e w' ⟨rfl, v', g1, g2, g3⟩
  have g4 : Keep X w w' := g2.mono (fun x hx _ => by
    rcases List.mem_cons.1 hx with rfl | hx
    · exact h3
    · exact h2 x (by simpa using hx))
  refine ⟨rfl, b :: v'.ownBlock.toList, ⟨⟨v', g1, fun g hg => by rw [hg]; simp⟩, by simp, fun x hx => ?_⟩, g4, fun x hx => ?_⟩
  · rcases List.mem_cons.1 hx with rfl | hx
    · exact ⟨hb.1, Nat.lt_of_lt_of_le hb.2 g4.size⟩
    · obtain ⟨_, _, gb, _⟩ := g1
      exact gb.own.lt x (by simpa using hx)
  · rcases List.mem_cons.1 hx with rfl | hx
    · exact .inl h3
    · rcases g3 with e3 | ⟨g, e3, hg⟩
      · rw [e3] at hx; exact .inl (h2 x (by simpa using hx))
      · rw [e3] at hx
        have : x = g := by simpa using hx
        exact .inr (by omega)
theorem cx_take {B b : Nat} {X : List Nat} {p : List UInt8} {c : Ck} {w : World} (h : Cx B w b X p c) :
    Calls Tryz.prog 78 #[.pointer (some ⟨b, 0, none⟩)] w fun e w' => ∃ o, e = .returned (.string (S o)) ∧ c.dat = p ++ o ∧ Cx B w' b X c.dat c ∧ Keep X w w' := by
  obtain ⟨⟨v, h1, h2⟩, h3, h4⟩ := h
  refine (chunk_Take h1).mono ?_
  rintro e w' ⟨o, rfl, g1, g2, g3⟩
  have g4 : Keep X w w' := g3.mono (fun x hx _ => by
    rcases List.mem_cons.1 hx with rfl | hx
    · exact h3
    · exact h2 x (by simpa using hx))
  exact ⟨o, rfl, g1, ⟨⟨_, g2, by simp [Value.ownBlock]⟩, h3, fun x hx => ⟨(h4 x hx).1, Nat.lt_of_lt_of_le (h4 x hx).2 g4.size⟩⟩, g4⟩
theorem cx_done {B b : Nat} {X : List Nat} {p : List UInt8} {c : Ck} {w : World} (h : Cx B w b X p c) (hs : c.st ≤ 4) :
    Calls Tryz.prog 53 #[.pointer (some ⟨b, 0, none⟩)] w fun e w' => e = .returned (.bool (decide (c.st = 4))) ∧ w = w' := let ⟨⟨_, h1, _⟩, _, _⟩ := h; chunk_Done h1 hs
theorem cx_rest {B b : Nat} {X : List Nat} {p : List UInt8} {c : Ck} {w : World} (h : Cx B w b X p c) (hs : c.st ≤ 4) :
    Calls Tryz.prog 54 #[.pointer (some ⟨b, 0, none⟩)] w fun e w' => e = .returned (.string (S (if c.st = 4 then c.inp else []))) ∧ w = w' := let ⟨⟨_, h1, _⟩, _, _⟩ := h; chunk_Rest h1 hs
end Go.Proofs.YtdmffbefppjllaaGreatDoor

/- Layer 10: the document's Params. No conditions but on lengths. -/
namespace Go.Proofs.YtdmffbefppjllaaGreatDoor
open Go.RowKit Go.Shelf

theorem parM_eq (x : List UInt8) : parM x = if 0 ≤ Lib.indexByte x 61 ∧ isTok (x.take (Lib.indexByte x 61).toNat) = true then
    (⟨lowW (x.take (Lib.indexByte x 61).toNat), (unqW (x.drop ((Lib.indexByte x 61).toNat + 1))).1⟩, (unqW (x.drop ((Lib.indexByte x 61).toNat + 1))).2) else (⟨[], []⟩, false) := by
  unfold parM Lib.cut
  rw [Lib.index_one]
  by_cases h : 0 ≤ Lib.indexByte x 61
  · simp only [if_pos h, List.length_singleton]
    by_cases h1 : isTok (x.take (Lib.indexByte x 61).toNat) = true
    · simp [h, h1]
    · simp [h1]
  · simp only [if_neg h]
    simp [h]

end Go.Proofs.YtdmffbefppjllaaGreatDoor

/- Layer 10: Frame. No conditions but on lengths. -/
namespace Go.Proofs.YtdmffbefppjllaaGreatDoor
open Go.RowKit Go.Shelf

def nTE : List UInt8 := [84, 114, 97, 110, 115, 102, 101, 114, 45, 69, 110, 99, 111, 100, 105, 110, 103]
def nCL : List UInt8 := [67, 111, 110, 116, 101, 110, 116, 45, 76, 101, 110, 103, 116, 104]
def nChunked : List UInt8 := [99, 104, 117, 110, 107, 101, 100]
/-- how a body is framed: its length, whether in chunks, the error -/
structure Frm where
  n : Int
  ch : Bool
  e : Int
def frameM (L : List Fld) (most : Int) : Frm :=
  if 1 < getN L nTE ∨ 1 < getN L nCL ∨ 1 < getN L nTE + getN L nCL then ⟨0, false, 3⟩
  else if getN L nTE = 1 then (if lowW (getV L nTE) = nChunked then ⟨0, true, 0⟩ else ⟨0, false, 3⟩)
  else if getN L nCL = 0 then ⟨-1, false, 0⟩
  else ⟨undecV (getV L nCL) most, false, if undecE (getV L nCL) most = 14 then 4 else undecE (getV L nCL) most⟩
theorem frm_ret {a c : Int} {b d : Bool} {x y : Int} (h : a = c) (h2 : b = d) (h3 : x = y) : Ending.returned (.tuple #[.int .i64 a, .bool b, .int .i64 x]) = .returned (.tuple #[.int .i64 c, .bool d, .int .i64 y]) := by rw [h, h2, h3]
theorem getV_len {L : List Fld} {n : List UInt8} {m : Nat} (h : ∀ x ∈ L, x.value.length ≤ m) : (getV L n).length ≤ m := by
  unfold getV
  cases hg : getS L n with
  | nil => simp
  | cons f r =>
    have : f ∈ getS L n := by rw [hg]; simp
    exact h f (List.mem_filter.1 this).1

set_option maxRecDepth 100000 in
set_option maxHeartbeats 1000000 in
theorem field_Frame (va : Value) (L : List Fld) (most : Int) (w : World) (ha : Sl Fld.cells 2 w va L) (hg : ∀ x ∈ L, x.name.length ≤ maxLen) (hv : ∀ x ∈ L, x.value.length ≤ maxLen) (_ : L.length ≤ 4611686018427387904) :
    Calls Tryz.prog 49 #[va, .int .i64 most] w fun e w' => e = .returned (.tuple #[.int .i64 (frameM L most).n, .bool (frameM L most).ch, .int .i64 (frameM L most).e]) ∧ Keep [] w w' := by
  have HG1 := Lib.hid (field_Get va L nTE w ha hg (by decide))
  have HG2 := Lib.hid (fun w1 (k : Keep [] w w1) => field_Get va L nCL w1 (ha.keep Fld.cells_length (by omega) ha k (by simp) (Nat.le_refl _)) hg (by decide))
  have hL := fun w1 => field_low (getV L nTE) w1 (getV_len hv)
  have hU := fun w1 => hexa_Undec (getV L nCL) most w1 (getV_len hv)
  have hF : frameM L most = if 1 < getN L nTE ∨ 1 < getN L nCL ∨ 1 < getN L nTE + getN L nCL then ⟨0, false, 3⟩
    else if getN L nTE = 1 then (if lowW (getV L nTE) = nChunked then ⟨0, true, 0⟩ else ⟨0, false, 3⟩)
    else if getN L nCL = 0 then ⟨-1, false, 0⟩
    else ⟨undecV (getV L nCL) most, false, if undecE (getV L nCL) most = 14 then 4 else undecE (getV L nCL) most⟩ := rfl
  have b1 := getN_le L nTE
  have b2 := getN_le L nCL
  unfold GetOut at HG1 HG2
  generalize frameM L most = f at hF
  generalize getV L nTE = tv at hL hF HG1
  generalize getV L nCL = cv at hU hF HG2
  generalize getN L nTE = tn at hF b1 HG1
  generalize getN L nCL = cn at hF b2 HG2
  obtain ⟨fn, fc, fe⟩ := f
  dsimp only
  clear ha hg hv
  by_cases h1 : 1 < tn ∨ 1 < cn ∨ 1 < tn + cn
  · rw [if_pos h1] at hF
    have HF := Lib.hid hF
    clear hF hL hU
    by_cases t1 : 1 < tn
    · clear h1
      go_enter Tryz.func49, Tryz.ntmps49
      go_wp2_with fail
      refine HG1.out.mono ?_
      rintro e w1 ⟨rfl, hk1⟩
      have K1 := Lib.hid hk1
      clear hk1
      go_wp2_with fail
      refine (HG2.out _ K1.out).mono ?_
      rintro e w2 ⟨rfl, hk2⟩
      have K2 := Lib.hid (K1.out.trans hk2)
      clear hk2
      go_wp2_with fail
      go_ret3
      exact ⟨frm_ret (by cases HF.out; rfl) (by cases HF.out; rfl) (by cases HF.out; rfl), K2.out⟩
    · by_cases t2 : 1 < cn
      · clear h1
        go_enter Tryz.func49, Tryz.ntmps49
        go_wp2_with fail
        refine HG1.out.mono ?_
        rintro e w1 ⟨rfl, hk1⟩
        have K1 := Lib.hid hk1
        clear hk1
        go_wp2_with fail
        refine (HG2.out _ K1.out).mono ?_
        rintro e w2 ⟨rfl, hk2⟩
        have K2 := Lib.hid (K1.out.trans hk2)
        clear hk2
        go_wp2_with fail
        go_ret3
        exact ⟨frm_ret (by cases HF.out; rfl) (by cases HF.out; rfl) (by cases HF.out; rfl), K2.out⟩
      · have t3 : 1 < tn + cn := by omega
        clear h1
        go_enter Tryz.func49, Tryz.ntmps49
        go_wp2_with fail
        refine HG1.out.mono ?_
        rintro e w1 ⟨rfl, hk1⟩
        have K1 := Lib.hid hk1
        clear hk1
        go_wp2_with fail
        refine (HG2.out _ K1.out).mono ?_
        rintro e w2 ⟨rfl, hk2⟩
        have K2 := Lib.hid (K1.out.trans hk2)
        clear hk2
        go_wp2_with fail
        go_ret3
        exact ⟨frm_ret (by cases HF.out; rfl) (by cases HF.out; rfl) (by cases HF.out; rfl), K2.out⟩
  · rw [if_neg h1] at hF
    have t1 : tn ≤ 1 := by omega
    have t2 : cn ≤ 1 := by omega
    have t3 : tn + cn ≤ 1 := by omega
    clear h1
    by_cases t4 : tn = 1
    · rw [if_pos t4] at hF
      obtain ⟨q1, q2⟩ := int_eq (show ((tn : Nat) : Int) = 1 by omega)
      have q5 := S_toList (lowW tv)
      by_cases hc : lowW tv = nChunked
      · rw [if_pos hc] at hF
        have q3 : (lowW tv == [99, 104, 117, 110, 107, 101, 100]) = true := by rw [hc]; rfl
        have q4 : (lowW tv != [99, 104, 117, 110, 107, 101, 100]) = false := by rw [hc]; rfl
        have HF := Lib.hid hF
        have HL := Lib.hid hL
        clear hF hL hU t4 hc
        go_enter Tryz.func49, Tryz.ntmps49
        go_wp2_with fail
        refine HG1.out.mono ?_
        rintro e w1 ⟨rfl, hk1⟩
        have K1 := Lib.hid hk1
        clear hk1
        go_wp2_with fail
        refine (HG2.out _ K1.out).mono ?_
        rintro e w2 ⟨rfl, hk2⟩
        have K2 := Lib.hid (K1.out.trans hk2)
        clear hk2
        go_wp2_with fail
        refine (HL.out _).mono ?_
        rintro e w3 ⟨rfl, hk3⟩
        have K3 := Lib.hid (K2.out.trans hk3)
        clear hk3
        go_wp2_with fail
        go_ret3
        exact ⟨frm_ret (by cases HF.out; rfl) (by cases HF.out; rfl) (by cases HF.out; rfl), K3.out⟩
      · rw [if_neg hc] at hF
        have q3 : (lowW tv == [99, 104, 117, 110, 107, 101, 100]) = false := beq_eq_false_iff_ne.2 hc
        have q4 : (lowW tv != [99, 104, 117, 110, 107, 101, 100]) = true := bne_iff_ne.2 hc
        have HF := Lib.hid hF
        have HL := Lib.hid hL
        clear hF hL hU t4 hc
        go_enter Tryz.func49, Tryz.ntmps49
        go_wp2_with fail
        refine HG1.out.mono ?_
        rintro e w1 ⟨rfl, hk1⟩
        have K1 := Lib.hid hk1
        clear hk1
        go_wp2_with fail
        refine (HG2.out _ K1.out).mono ?_
        rintro e w2 ⟨rfl, hk2⟩
        have K2 := Lib.hid (K1.out.trans hk2)
        clear hk2
        go_wp2_with fail
        refine (HL.out _).mono ?_
        rintro e w3 ⟨rfl, hk3⟩
        have K3 := Lib.hid (K2.out.trans hk3)
        clear hk3
        go_wp2_with fail
        go_ret3
        exact ⟨frm_ret (by cases HF.out; rfl) (by cases HF.out; rfl) (by cases HF.out; rfl), K3.out⟩
    · rw [if_neg t4] at hF
      obtain ⟨q1, q2⟩ := int_ne (show ((tn : Nat) : Int) ≠ 1 by omega)
      by_cases t5 : cn = 0
      · rw [if_pos t5] at hF
        obtain ⟨q3, q4⟩ := int_eq (show ((cn : Nat) : Int) = 0 by omega)
        have HF := Lib.hid hF
        clear hF hL hU t4 t5
        go_enter Tryz.func49, Tryz.ntmps49
        go_wp2_with fail
        refine HG1.out.mono ?_
        rintro e w1 ⟨rfl, hk1⟩
        have K1 := Lib.hid hk1
        clear hk1
        go_wp2_with fail
        refine (HG2.out _ K1.out).mono ?_
        rintro e w2 ⟨rfl, hk2⟩
        have K2 := Lib.hid (K1.out.trans hk2)
        clear hk2
        go_wp2_with fail
        go_ret3
        exact ⟨frm_ret (by cases HF.out; rfl) (by cases HF.out; rfl) (by cases HF.out; rfl), K2.out⟩
      · rw [if_neg t5] at hF
        obtain ⟨q3, q4⟩ := int_ne (show ((cn : Nat) : Int) ≠ 0 by omega)
        generalize undecV cv most = uv at hF hU
        generalize undecE cv most = ue at hF hU
        have HU := Lib.hid hU
        by_cases h14 : ue = 14
        · rw [if_pos h14] at hF
          obtain ⟨q5, q6⟩ := int_eq h14
          have HF := Lib.hid hF
          clear hF hL hU t4 t5 h14
          go_enter Tryz.func49, Tryz.ntmps49
          go_wp2_with fail
          refine HG1.out.mono ?_
          rintro e w1 ⟨rfl, hk1⟩
          have K1 := Lib.hid hk1
          clear hk1
          go_wp2_with fail
          refine (HG2.out _ K1.out).mono ?_
          rintro e w2 ⟨rfl, hk2⟩
          have K2 := Lib.hid (K1.out.trans hk2)
          clear hk2
          go_wp2_with fail
          refine (HU.out _).mono ?_
          rintro e w3 ⟨rfl, hk3⟩
          have K3 := Lib.hid (K2.out.trans hk3)
          clear hk3
          go_wp2_with fail
          go_ret3
          exact ⟨frm_ret (by cases HF.out; rfl) (by cases HF.out; rfl) (by cases HF.out; rfl), K3.out⟩
        · rw [if_neg h14] at hF
          obtain ⟨q5, q6⟩ := int_ne h14
          have HF := Lib.hid hF
          clear hF hL hU t4 t5 h14
          go_enter Tryz.func49, Tryz.ntmps49
          go_wp2_with fail
          refine HG1.out.mono ?_
          rintro e w1 ⟨rfl, hk1⟩
          have K1 := Lib.hid hk1
          clear hk1
          go_wp2_with fail
          refine (HG2.out _ K1.out).mono ?_
          rintro e w2 ⟨rfl, hk2⟩
          have K2 := Lib.hid (K1.out.trans hk2)
          clear hk2
          go_wp2_with fail
          refine (HU.out _).mono ?_
          rintro e w3 ⟨rfl, hk3⟩
          have K3 := Lib.hid (K2.out.trans hk3)
          clear hk3
          go_wp2_with fail
          go_ret3
          exact ⟨frm_ret (by cases HF.out; rfl) (by cases HF.out; rfl) (by cases HF.out; rfl), K3.out⟩

theorem frame_cases (L : List Fld) (most : Int) :
    ((1 < getN L nTE ∨ 1 < getN L nCL ∨ 1 < getN L nTE + getN L nCL) ∧ frameM L most = ⟨0, false, 3⟩) ∨ (getN L nTE = 1 ∧ getN L nCL = 0 ∧ frameM L most = ⟨0, true, 0⟩) ∨
    (((getN L nTE = 1 ∧ getN L nCL = 0) ∨ (getN L nTE = 0 ∧ getN L nCL = 1)) ∧ ∃ x, x ≠ 0 ∧ frameM L most = ⟨0, false, x⟩) ∨ (getN L nTE = 0 ∧ getN L nCL = 0 ∧ frameM L most = ⟨-1, false, 0⟩) ∨
    (getN L nTE = 0 ∧ getN L nCL = 1 ∧ ∃ v, 0 ≤ v ∧ v ≤ most ∧ frameM L most = ⟨v, false, 0⟩) := by
  have h := undec_range (getV L nCL) most
  unfold frameM
  by_cases h1 : 1 < getN L nTE ∨ 1 < getN L nCL ∨ 1 < getN L nTE + getN L nCL
  · exact .inl ⟨h1, if_pos h1⟩
  · rw [if_neg h1]
    by_cases t4 : getN L nTE = 1
    · rw [if_pos t4]
      by_cases hc : lowW (getV L nTE) = nChunked
      · rw [if_pos hc]; exact .inr (.inl ⟨t4, by omega, rfl⟩)
      · rw [if_neg hc]; exact .inr (.inr (.inl ⟨.inl ⟨t4, by omega⟩, 3, by omega, rfl⟩))
    · rw [if_neg t4]
      by_cases t5 : getN L nCL = 0
      · rw [if_pos t5]; exact .inr (.inr (.inr (.inl ⟨by omega, t5, rfl⟩)))
      · rw [if_neg t5]
        by_cases he : undecE (getV L nCL) most = 0
        · rw [if_neg (by omega), he]
          exact .inr (.inr (.inr (.inr ⟨by omega, by omega, _, (h.1 he).1, (h.1 he).2, rfl⟩)))
        · obtain ⟨h2, h3⟩ := h.2 he
          rw [h2]
          refine .inr (.inr (.inl ⟨.inr ⟨by omega, by omega⟩, _, ?_, rfl⟩))
          split <;> omega
end Go.Proofs.YtdmffbefppjllaaGreatDoor

/- Layer 10: Closes, both sides; the document's Undec and Frame. No conditions but on lengths. -/
namespace Go.Proofs.YtdmffbefppjllaaGreatDoor
open Go.RowKit Go.Shelf

def nConn : List UInt8 := [67, 111, 110, 110, 101, 99, 116, 105, 111, 110]
def nClose : List UInt8 := [99, 108, 111, 115, 101]
def nKeep : List UInt8 := [107, 101, 101, 112, 45, 97, 108, 105, 118, 101]
def closeL : List (List UInt8) → Bool → Bool
  | [], k => !k
  | x :: r, k => if lowW x = nClose then true else closeL r (k || decide (lowW x = nKeep))
def closesM (L : List Fld) (minor : Int) : Bool := closeL (elsM L nConn) (decide (1 ≤ minor))
theorem els_congr {n m : List UInt8} (L : List Fld) (h : lowW n = lowW m) : elsM L n = elsM L m := by
  have : sameN n = sameN m := by funext f; unfold sameN; rw [h]
  unfold elsM getS
  rw [this]
theorem els_elem {L : List Fld} {n x : List UInt8} {m : Nat} (hg : ∀ f ∈ L, f.value.length ≤ m) (h : x ∈ elsM L n) : x.length ≤ m := by
  unfold elsM at h
  obtain ⟨f, hf, hx⟩ := List.mem_flatMap.1 h
  have h1 := (List.mem_filter.1 hf).1
  have h2 := (List.mem_filter.1 hx).1
  exact Nat.le_trans (cutW_elem h2) (hg f h1)

set_option maxRecDepth 100000 in
set_option maxHeartbeats 1000000 in
theorem field_Closes (va : Value) (L : List Fld) (minor : Int) (w : World) (ha : Sl Fld.cells 2 w va L) (hg : ∀ x ∈ L, x.name.length ≤ 1048576 ∧ x.value.length ≤ 1048576) (hl : L.length ≤ 1024) :
    Calls Tryz.prog 51 #[va, .int .i64 minor] w fun e w' => e = .returned (.bool (closesM L minor)) ∧ Keep [] w w' := by
  have hE := field_Elements va L nConn w ha hg (by decide) hl
  have hC : closesM L minor = closeL (elsM L nConn) (decide (1 ≤ minor)) := rfl
  have hel : ∀ x ∈ elsM L nConn, x.length ≤ 1048576 := fun x hx => els_elem (fun f hf => (hg f hf).2) hx
  generalize elsM L nConn = M at hE hC hel
  generalize closesM L minor = res at hC
  have HE := Lib.hid hE
  have HC := Lib.hid hC
  have HEL := Lib.hid hel
  have HLW := Lib.hid (fun (x : List UInt8) (h : x.length ≤ 1048576) (w1 : World) => field_low x w1 (show x.length ≤ 9223372036854775807 by omega))
  clear hE hC hel ha hg
  generalize hdec : decide (1 ≤ minor) = kp0 at HC
  have hmin : (decide ((1 : Int) ≤ minor)) = kp0 := hdec
  go_enter Tryz.func51, Tryz.ntmps51
  go_wp2_with fail
  refine HE.out.mono ?_
  rintro e w1 ⟨pv, rfl, ho1, hk1⟩
  obtain ⟨pa, pc, rfl, hml⟩ := ho1.shape
  have hml' : M.length ≤ 9223372036854775807 := hml
  have HO := Lib.hid ho1
  have K1 := Lib.hid hk1
  clear ho1 hk1 hml hdec
  go_wp2_with fail
  clear hmin
  go_loopg [5, 13] M.length (fun g kv j wr => ∃ (k : Nat) (b : Bool), j = .int .i64 k ∧ kv = .bool b ∧ k ≤ M.length ∧ g = M.length - k ∧ Hid (Own strC 1 w.heap.size 9 wr (.slice pa M.length pc) M) ∧ Hid (Keep [] w wr) ∧ Hid (res = closeL (M.drop k) b))
  case atStart => exact ⟨0, _, rfl, rfl, by omega, by omega, HO, K1, HC⟩
  case round =>
    obtain ⟨k, b, rfl, rfl, hk, rfl, HO, HK, HF⟩ := hrel
    by_cases hlt : k < M.length
    · obtain ⟨x, hx⟩ : ∃ x, M[k]? = some x := ⟨_, List.getElem?_eq_getElem hlt⟩
      have HL := Lib.hid (HLW.out x (HEL.out x (List.mem_of_getElem? hx)))
      obtain ⟨b1, o1, c1, hv1, _, hc1, hx1⟩ := (HO.out.sl strC_length).cell hx
      cases hv1
      have hc1' : pc ≤ 9223372036854775807 := hc1
      have e0 := hx1 0 (by omega)
      simp only [strC, List.getElem?_cons_zero, Nat.mul_one, Nat.add_zero] at e0
      have hF := HF.out
      rw [drop_atG hx, closeL] at hF
      have ht := S_toList (lowW x)
      clear hx1 hx HF hc1
      by_cases h1 : lowW x = nClose
      · rw [if_pos h1] at hF
        have q1 : (lowW x == [99, 108, 111, 115, 101]) = true := by rw [h1]; rfl
        have HF := Lib.hid hF
        clear hF h1
        go_wp2_with fail
        refine (HL.out _).mono ?_
        rintro e w2 ⟨rfl, hk2⟩
        have K2 := Lib.hid (HK.out.trans hk2)
        clear hk2
        go_wp2_with fail
        go_ret
        exact ⟨ret_bool HF.out.symm, K2.out⟩
      · rw [if_neg h1] at hF
        have q1 : (lowW x == [99, 108, 111, 115, 101]) = false := beq_eq_false_iff_ne.2 h1
        by_cases h2 : lowW x = nKeep
        · have q2 : (lowW x == [107, 101, 101, 112, 45, 97, 108, 105, 118, 101]) = true := by rw [h2]; rfl
          have HF : Hid (res = closeL (M.drop (k + 1)) true) := by rw [Hid, hF]; simp [h2]
          clear hF h1 h2
          go_wp2_with fail
          refine (HL.out _).mono ?_
          rintro e w2 ⟨rfl, hk2⟩
          have K2 := Lib.hid (HK.out.trans hk2)
          have O2 := Lib.hid (HO.out.keep0 hk2)
          clear hk2
          go_wp2_with fail
          go_roundg (M.length - (k + 1))
          case measure => omega
          case rel => exact ⟨k + 1, true, by go_num, rfl, by omega, rfl, O2, K2, HF⟩
        · have q2 : (lowW x == [107, 101, 101, 112, 45, 97, 108, 105, 118, 101]) = false := beq_eq_false_iff_ne.2 h2
          have HF : Hid (res = closeL (M.drop (k + 1)) b) := by rw [Hid, hF]; simp [h2]
          clear hF h1 h2
          go_wp2_with fail
          refine (HL.out _).mono ?_
          rintro e w2 ⟨rfl, hk2⟩
          have K2 := Lib.hid (HK.out.trans hk2)
          have O2 := Lib.hid (HO.out.keep0 hk2)
          clear hk2
          go_wp2_with fail
          go_roundg (M.length - (k + 1))
          case measure => omega
          case rel => exact ⟨k + 1, b, by go_num, rfl, by omega, rfl, O2, K2, HF⟩
    · have hF := HF.out
      rw [List.drop_eq_nil_of_le (by omega), closeL] at hF
      have HF2 := Lib.hid hF
      clear hF HF
      go_wp2_with fail
      go_ret
      exact ⟨ret_bool HF2.out.symm, HK.out⟩

end Go.Proofs.YtdmffbefppjllaaGreatDoor

/- Layer 12: what an inlet does, as a plain machine. No program. No conditions but those that each theorem states. -/
namespace Go.Proofs.YtdmffbefppjllaaGreatDoor
open Go.RowKit

structure Req where
  m : List UInt8
  t : List UInt8
  F : List Fld
  cl : Bool
def req0 : Req := ⟨[], [], [], false⟩
def toldE (e long : Int) : Int := if e = 0 ∨ e = 17 then 0 else if e = 4 then long else 400
def nHost : List UInt8 := [72, 111, 115, 116]
/-- what a head comes to: what is wrong, whether one has come, its length, its request, what its body is -/
structure Hr where
  s : Int
  got : Bool
  n : Nat
  q : Req
  skip : Nat
  ch : Bool
def hr0 (s : Int) : Hr := ⟨s, false, 0, req0, 0, false⟩
def headM (l : List UInt8) : Hr :=
  if (splitM l).e ≠ 0 then hr0 (toldE (splitM l).e 431)
  else if (lnM (splitM l).st).s ≠ 200 then hr0 (lnM (splitM l).st).s
  else if 1 < getN (splitM l).F nHost ∨ (getN (splitM l).F nHost : Int) < (lnM (splitM l).st).v then hr0 400
  else if (frameM (splitM l).F 4096).e ≠ 0 then hr0 (toldE (frameM (splitM l).F 4096).e 413)
  else ⟨0, true, (splitM l).n, ⟨(lnM (splitM l).st).m, (lnM (splitM l).st).t, (splitM l).F, closesM (splitM l).F (lnM (splitM l).st).v⟩, (max (frameM (splitM l).F 4096).n 0).toNat, (frameM (splitM l).F 4096).ch⟩
/-- an inlet: what has come and wasn't read, the bytes of the request that is read, the request, what is left of its body, what was wrong -/
structure InS where
  inp : List UInt8
  held : Nat
  req : Option Req
  skip : Nat
  chk : Option Ck
  st : Int
def in0 : InS := ⟨[], 0, none, 0, none, 0⟩
def InS.left (p : InS) : Nat := p.inp.length + p.held
def inAdd (p : InS) (s : List UInt8) : InS × Int :=
  if p.st ≠ 0 then (p, 8) else if (16384 : Int) - p.left < s.length then (p, 6) else ({ p with inp := p.inp ++ s }, 0)
structure BdR where
  p : InS
  whole : Bool
  s : Int
def bodyB (p : InS) : BdR :=
  match p.chk with
  | none => ⟨{ p with inp := p.inp.drop (min p.skip p.inp.length), held := p.held + min p.skip p.inp.length, skip := p.skip - min p.skip p.inp.length }, decide (p.skip - min p.skip p.inp.length = 0), 0⟩
  | some c =>
    if (addC c p.inp).err ≠ 0 then ⟨{ p with inp := [], held := p.held + p.inp.length, chk := some (addC c p.inp) }, false, toldE (addC c p.inp).err 413⟩
    else if (addC c p.inp).st ≠ 4 then ⟨{ p with inp := [], held := p.held + p.inp.length, chk := some (addC c p.inp) }, false, 0⟩
    else ⟨{ p with inp := (addC c p.inp).inp, held := p.held + p.inp.length, chk := none }, true, 0⟩
/-- what Next comes to: the inlet, the request, the status -/
structure NxR where
  p : InS
  q : Req
  s : Int
def tailI (p : InS) (q : Req) : NxR :=
  if (bodyB p).s ≠ 0 then ⟨{ (bodyB p).p with st := (bodyB p).s }, req0, (bodyB p).s⟩
  else if (bodyB p).whole then ⟨{ (bodyB p).p with req := none, held := 0 }, q, 200⟩
  else ⟨(bodyB p).p, req0, 0⟩
def headed (p : InS) (h : Hr) : InS := { p with inp := p.inp.drop h.n, held := h.n, skip := h.skip, chk := if h.ch then some (ck0 4096) else p.chk, req := some h.q }
def nextI (p : InS) : NxR :=
  if p.st ≠ 0 then ⟨p, req0, p.st⟩
  else match p.req with
    | some q => tailI p q
    | none =>
      if (headM p.inp).s ≠ 0 then ⟨{ p with st := (headM p.inp).s }, req0, (headM p.inp).s⟩
      else if (headM p.inp).got then tailI (headed p (headM p.inp)) (headM p.inp).q
      else ⟨p, req0, 0⟩
/-- what holds of an inlet at any time -/
structure InS.ok (p : InS) : Prop where
  len : p.inp.length + p.held ≤ 16384
  skp : p.skip ≤ 4096
  chk : ∀ c, p.chk = some c → (c.err = 0 → c.ok) ∧ c.most = 4096 ∧ c.inp.length + c.dat.length + 2 ≤ p.held ∧ c.st ≤ 4
  req : p.st = 0 → p.req = none → p.chk = none ∧ p.held = 0
  bad : ∀ c, p.st = 0 → p.chk = some c → c.err = 0
  hld : p.st = 0 → p.req ≠ none → 2 ≤ p.held
end Go.Proofs.YtdmffbefppjllaaGreatDoor

/- Layer 12: an inlet in memory; New, Left, wrong, Add, told. No conditions but on lengths. -/
namespace Go.Proofs.YtdmffbefppjllaaGreatDoor
open Go.RowKit Go.Shelf

def reqC (m t : List UInt8) (v : Value) (cl : Bool) : List Value := [.string (S m), .string (S t), v, .bool cl]
def inC (I : InS) (rv cv : Value) : List Value := [.string (S I.inp), .int .i64 (I.held : Nat), rv, .int .i64 (I.skip : Nat), cv, .int .i64 I.st]
/-- a request in memory: its block and its fields' row lie in R -/
def ReqAt (B : Nat) (w : World) (R : List Nat) (rv : Value) (o : Option Req) : Prop :=
  match o with
  | none => rv = .pointer none
  | some q => ∃ b v, rv = .pointer (some ⟨b, 0, none⟩) ∧ b ∈ R ∧ Blk w b 36 (reqC q.m q.t v q.cl) ∧ Own Fld.cells 2 B 26 w v q.F ∧ ∀ g, v.ownBlock = some g → g ∈ R
/-- a chunked body's reader in memory: its blocks lie in X -/
def ChkAt (B : Nat) (w : World) (p : Nat) (X : List Nat) (cv : Value) (o : Option Ck) : Prop :=
  match o with
  | none => cv = .pointer none
  | some c => ∃ b v, cv = .pointer (some ⟨b, 0, none⟩) ∧ b ≠ p ∧ b ∈ X ∧ Ct B w b [] c v ∧ ∀ g, v.ownBlock = some g → g ∈ X ∧ g ≠ p
/-- an inlet in memory: X: what its calls write; R: what is only read -/
structure It (B : Nat) (w : World) (p : Nat) (X R : List Nat) (I : InS) : Prop where
  at' : ∃ rv cv, Blk w p 64 (inC I rv cv) ∧ ChkAt B w p X cv I.chk ∧ ReqAt B w R rv I.req
  mem : p ∈ X
  lo : ∀ x ∈ X, B ≤ x ∧ x < w.heap.size
  ro : ∀ x ∈ R, B ≤ x ∧ x < w.heap.size ∧ x ∉ X
theorem Ct.lt {B b : Nat} {w : World} {p : List UInt8} {c : Ck} {v : Value} (h : Ct B w b p c v) : b < w.heap.size := let ⟨_, h1⟩ := h.cells; h1.lt
theorem ReqAt.keep {B : Nat} {w w' : World} {R S : List Nat} {rv : Value} {o : Option Req} (h : ReqAt B w R rv o) (k : Keep S w w') (hR : ∀ x ∈ R, x ∉ S) : ReqAt B w' R rv o := by
  cases o with
  | none => exact h
  | some q =>
    obtain ⟨b, v, h1, h2, h3, h4, h5⟩ := h
    exact ⟨b, v, h1, h2, k.blk h3 (hR b h2), h4.keep k (fun g hg => hR g (h5 g hg)), h5⟩
theorem ChkAt.keep {B p : Nat} {w w' : World} {X S : List Nat} {cv : Value} {o : Option Ck} (h : ChkAt B w p X cv o) (k : Keep S w w') (hX : ∀ x ∈ X, x ≠ p → x ∉ S) : ChkAt B w' p X cv o := by
  cases o with
  | none => exact h
  | some c =>
    obtain ⟨b, v, h1, h2, h3, h4, h5⟩ := h
    exact ⟨b, v, h1, h2, h3, h4.keep k (hX b h3 h2) (fun g hg => hX g (h5 g hg).1 (h5 g hg).2), h5⟩
theorem It.keep {B p : Nat} {w w' : World} {X R S : List Nat} {I : InS} (h : It B w p X R I) (k : Keep S w w') (hX : ∀ x ∈ X, x ∉ S) (hR : ∀ x ∈ R, x ∉ S) : It B w' p X R I := by
  obtain ⟨⟨rv, cv, h1, h2, h3⟩, h4, h5, h6⟩ := h
  exact ⟨⟨rv, cv, k.blk h1 (hX p h4), h2.keep k (fun x hx _ => hX x hx), h3.keep k hR⟩, h4, fun x hx => ⟨(h5 x hx).1, Nat.lt_of_lt_of_le (h5 x hx).2 k.size⟩, fun x hx => ⟨(h6 x hx).1, Nat.lt_of_lt_of_le (h6 x hx).2.1 k.size, (h6 x hx).2.2⟩⟩
theorem It.keep0 {B p : Nat} {w w' : World} {X R : List Nat} {I : InS} (h : It B w p X R I) (k : Keep [] w w') : It B w' p X R I := h.keep k (by simp) (by simp)
theorem It.lt {B p : Nat} {w : World} {X R : List Nat} {I : InS} (h : It B w p X R I) : p < w.heap.size := (h.lo p h.mem).2
theorem It.base {B p : Nat} {w : World} {X R : List Nat} {I : InS} (h : It B w p X R I) : B ≤ p := (h.lo p h.mem).1
/-- a store into the inlet's own block -/
theorem It.set {B p : Nat} {w : World} {X R : List Nat} {I I' : InS} (h : It B w p X R I) (k : Nat) (x : Value) (hc : ∀ rv cv, (inC I rv cv).set k x = inC I' rv cv) (h1 : I'.req = I.req) (h2 : I'.chk = I.chk) : It B (w.setCell ⟨p, k, none⟩ x) p X R I' := by
  obtain ⟨⟨rv, cv, b1, b2, b3⟩, h4, h5, h6⟩ := h
  have hk : Keep [p] w (w.setCell ⟨p, k, none⟩ x) := (Keep.refl _ _).setCell _ _ (by simp)
  refine ⟨⟨rv, cv, ?_, ?_, ?_⟩, h4, fun y hy => ⟨(h5 y hy).1, Nat.lt_of_lt_of_le (h5 y hy).2 hk.size⟩, fun y hy => ⟨(h6 y hy).1, Nat.lt_of_lt_of_le (h6 y hy).2.1 hk.size, (h6 y hy).2.2⟩⟩
  · rw [← hc]; exact b1.set k x
  · rw [h2]; exact b2.keep hk (fun y _ hy => by simpa using hy)
  · rw [h1]; exact b3.keep hk (fun y hy => by simp only [List.mem_singleton]; rintro rfl; exact (h6 _ hy).2.2 h4)
theorem It.at_ {B p : Nat} {w : World} {X R : List Nat} {I : InS} (h : It B w p X R I) : w.cell? ⟨p, 0, none⟩ = some (.string (S I.inp)) ∧ w.cell? ⟨p, 1, none⟩ = some (.int .i64 (I.held : Nat)) ∧ w.cell? ⟨p, 3, none⟩ = some (.int .i64 (I.skip : Nat)) ∧ w.cell? ⟨p, 5, none⟩ = some (.int .i64 I.st) := by
  obtain ⟨⟨rv, cv, b1, _⟩, _⟩ := h
  exact ⟨b1.get (k := 0) rfl, b1.get (k := 1) rfl, b1.get (k := 3) rfl, b1.get (k := 5) rfl⟩
theorem It.free {B p : Nat} {w : World} {X R : List Nat} {I : InS} (h : It B w p X R I) (k : Nat) : w.frozen? ⟨p, k, none⟩ = false := let ⟨⟨_, _, b1, _⟩, _, _, _⟩ := h; b1.frozen k
/-- a call's footprint -/
theorem It.keepX {B p : Nat} {w w' : World} {X R : List Nat} {I : InS} (h : It B w p X R I) (k : Keep [p] w w') : Keep X w w' := k.mono (fun x hx _ => by simp at hx; subst hx; exact h.mem)

set_option maxHeartbeats 1000000 in
set_option maxRecDepth 100000 in
theorem inlet_New (B : Nat) (w : World) (hB : B ≤ w.heap.size) :
    Calls Tryz.prog 9 #[] w fun e w' => ∃ p, e = .returned (.pointer (some ⟨p, 0, none⟩)) ∧ w.heap.size ≤ p ∧ It B w' p [p] [] in0 ∧ Keep [] w w' := by
  have H := Lib.hid (Blk.newA w (inC in0 (.pointer none) (.pointer none)).toArray 64)
  go_enter Tryz.func9, Tryz.ntmps9
  go_wp2_with fail
  go_ret
  exact ⟨w.heap.size, rfl, Nat.le_refl _, ⟨⟨.pointer none, .pointer none, H.out, rfl, rfl⟩, by simp, fun x hx => by simp at hx; subst hx; simp; omega, by simp⟩, (Keep.refl [] w).alloc _⟩
set_option maxHeartbeats 1000000 in
set_option maxRecDepth 100000 in
theorem inlet_Left {B p : Nat} {X R : List Nat} {I : InS} {w : World} (h : It B w p X R I) (hl : I.inp.length + I.held ≤ 1048576) :
    Calls Tryz.prog 27 #[.pointer (some ⟨p, 0, none⟩)] w fun e w' => e = .returned (.int .i64 (I.left : Nat)) ∧ Keep [] w w' := by
  obtain ⟨c0, c1, _, _⟩ := h.at_
  have sz := S_size I.inp
  have hw := IntWalk.i64_in ((I.inp.length : Int) + (I.held : Int)) (by omega)
  have HF := Lib.hid (show ((I.inp.length : Int) + (I.held : Int)) = ((I.left : Nat) : Int) by unfold InS.left; omega)
  clear h
  go_enter Tryz.func27, Tryz.ntmps27
  go_wp2_with fail
  go_region_with fail
  all_goals
    go_wp2_with fail
    go_ret
    exact ⟨ret_int HF.out, by repeat (first | exact Keep.refl _ _ | apply Keep.drew)⟩
set_option maxHeartbeats 1000000 in
set_option maxRecDepth 100000 in
theorem inlet_wrong {B p : Nat} {X R : List Nat} {I : InS} {w : World} (h : It B w p X R I) :
    Calls Tryz.prog 28 #[.pointer (some ⟨p, 0, none⟩)] w fun e w' => e = .returned (.int .i64 I.st) ∧ w = w' := by
  obtain ⟨_, _, _, c5⟩ := h.at_
  clear h
  go_enter Tryz.func28, Tryz.ntmps28
  go_wp2_with fail
  go_ret
  exact ⟨rfl, rfl⟩
set_option maxHeartbeats 1000000 in
set_option maxRecDepth 100000 in
theorem inlet_told (e0 long : Int) (w : World) :
    Calls Tryz.prog 48 #[.int .i64 e0, .int .i64 long] w fun e w' => e = .returned (.int .i64 (toldE e0 long)) ∧ w = w' := by
  have hT : toldE e0 long = if e0 = 0 ∨ e0 = 17 then 0 else if e0 = 4 then long else 400 := rfl
  by_cases h0 : e0 = 0
  · rw [if_pos (.inl h0)] at hT
    have HT := Lib.hid hT
    have q := (int_eq h0).1
    clear h0 hT
    go_enter Tryz.func48, Tryz.ntmps48
    go_wp2_with fail
    go_ret
    exact ⟨ret_int HT.out.symm, rfl⟩
  · by_cases h17 : e0 = 17
    · rw [if_pos (.inr h17)] at hT
      have HT := Lib.hid hT
      subst h17
      clear h0 hT
      go_enter Tryz.func48, Tryz.ntmps48
      go_wp2_with fail
      go_ret
      exact ⟨ret_int HT.out.symm, rfl⟩
    · rw [if_neg (by omega)] at hT
      have q := (int_ne h0).1
      have q2 := (int_ne h17).1
      by_cases h4 : e0 = 4
      · rw [if_pos h4] at hT
        have HT := Lib.hid hT
        subst h4
        clear h0 h17 hT q q2
        go_enter Tryz.func48, Tryz.ntmps48
        go_wp2_with fail
        go_ret
        exact ⟨ret_int HT.out.symm, rfl⟩
      · rw [if_neg h4] at hT
        have HT := Lib.hid hT
        have q3 := (int_ne h4).1
        clear h0 h17 hT h4
        go_enter Tryz.func48, Tryz.ntmps48
        go_wp2_with fail
        go_ret
        exact ⟨ret_int HT.out.symm, rfl⟩
set_option maxHeartbeats 2000000 in
set_option maxRecDepth 100000 in
theorem inlet_Add {B p : Nat} {X R : List Nat} {I : InS} {w : World} (s : List UInt8) (h : It B w p X R I) (hl : I.inp.length + I.held ≤ 1048576) (_hs : s.length ≤ 1048576) :
    Calls Tryz.prog 10 #[.pointer (some ⟨p, 0, none⟩), .string (S s)] w fun e w' => e = .returned (.int .i64 (inAdd I s).2) ∧ It B w' p X R (inAdd I s).1 ∧ Keep [p] w w' := by
  obtain ⟨c0, _, _, c5⟩ := h.at_
  have f0 := h.free 0
  have sz := S_size s
  have sz2 := S_size I.inp
  have hA : inAdd I s = if I.st ≠ 0 then (I, 8) else if (16384 : Int) - I.left < s.length then (I, 6) else ({ I with inp := I.inp ++ s }, 0) := rfl
  have HL := Lib.hid (inlet_Left h hl)
  have H := Lib.hid h
  have hll : I.left = I.inp.length + I.held := rfl
  have hw := IntWalk.i64_in ((16384 : Int) - (I.left : Int)) (by omega)
  by_cases h0 : I.st = 0
  · rw [if_neg (by simp [h0])] at hA
    have q1 := (int_eq h0).2
    by_cases h6 : (16384 : Int) - I.left < s.length
    · rw [if_pos h6] at hA
      have HA := Lib.hid hA
      have q2 : decide ((s.length : Int) > (16384 : Int) - I.left) = true := by simp; omega
      clear hA h h0 hll
      go_enter Tryz.func10, Tryz.ntmps10
      go_wp2_with fail
      refine HL.out.mono ?_
      rintro e w1 ⟨rfl, k1⟩
      have K1 := Lib.hid k1
      clear k1
      go_wp2_with fail
      go_ret
      rw [HA.out]
      exact ⟨rfl, H.out.keep0 K1.out, K1.out.mono (by simp)⟩
    · rw [if_neg h6] at hA
      have HA := Lib.hid hA
      have q2 : decide ((s.length : Int) > (16384 : Int) - I.left) = false := by simp; omega
      have q3 := S_append I.inp s
      have hov : ¬ 9223372036854775807 < I.inp.length + s.length := by omega
      clear hA h h0 hll c0 f0
      go_enter Tryz.func10, Tryz.ntmps10
      go_wp2_with fail
      refine HL.out.mono ?_
      rintro e w1 ⟨rfl, k1⟩
      have K1 := Lib.hid k1
      have H1 := Lib.hid (H.out.keep0 k1)
      obtain ⟨c0, _, _, _⟩ := H1.out.at_
      have f0 := H1.out.free 0
      clear k1 c5
      go_wp2_with fail
      go_ret
      rw [HA.out]
      exact ⟨rfl, H1.out.set 0 (.string (S (I.inp ++ s))) (fun _ _ => rfl) rfl rfl, (K1.out.mono (by simp)).setCell _ _ (by simp)⟩
  · rw [if_pos h0] at hA
    have HA := Lib.hid hA
    have q1 := (int_ne h0).2
    clear hA h h0 hll
    go_enter Tryz.func10, Tryz.ntmps10
    go_wp2_with fail
    go_ret
    rw [HA.out]
    exact ⟨rfl, H.out, Keep.refl _ _⟩
end Go.Proofs.YtdmffbefppjllaaGreatDoor

/- Layer 14: what a reply does, as a plain machine. No program. No conditions. -/
namespace Go.Proofs.YtdmffbefppjllaaGreatDoor
open Go.RowKit

structure Ans where
  st : Int
  F : List Fld
  len : Int
  ch : Bool
  cl : Bool
def ans0 : Ans := ⟨0, [], 0, false, false⟩
structure ReS where
  head : Bool
  most : Nat
  st : Nat
  inp : List UInt8
  dat : List UInt8
  left : Nat
  size : Nat
  passed : Nat
  chk : Option Ck
  ans : Option Ans
  shut : Bool
  ended : Bool
def reNew (head : Bool) (most : Int) : ReS := ⟨head, (max most 0).toNat, 0, [], [], 0, 0, 0, none, none, false, false⟩
def reAdd (p : ReS) (s : List UInt8) : ReS × Int :=
  if (16384 : Int) - p.inp.length - p.dat.length < s.length then (p, 6) else if p.shut || p.st == 5 then (p, 0) else ({ p with inp := p.inp ++ s }, 0)
def reShut (p : ReS) : ReS := { p with shut := true }
def reFail (p : ReS) : ReS := { p with st := 5 }
def noBody (s : Int) (head : Bool) : Bool := head || (decide (100 ≤ s) && decide (s < 200)) || decide (s = 204) || decide (s = 304)
structure FrR where
  p : ReS
  a : Ans
  ok : Bool
def reFrame (p : ReS) (a : Ans) : FrR :=
  if noBody a.st p.head then ⟨{ p with st := 4 }, { a with len := max (frameM a.F 1048576).n 0 }, true⟩
  else if (frameM a.F p.most).e ≠ 0 then ⟨p, a, false⟩
  else if (frameM a.F p.most).ch then ⟨{ p with st := 1, chk := some (ck0 p.most) }, { a with ch := true }, true⟩
  else if (frameM a.F p.most).n < 0 then ⟨{ p with st := 3 }, { a with len := (frameM a.F p.most).n, cl := true }, true⟩
  else ⟨{ p with st := 2, left := (frameM a.F p.most).n.toNat }, { a with len := (frameM a.F p.most).n }, true⟩
def headA (p : ReS) : Ans := ⟨(slM (splitM p.inp).st).n, (splitM p.inp).F, 0, false, closesM (splitM p.inp).F (slM (splitM p.inp).st).v⟩
def headP (p : ReS) : ReS := { p with inp := p.inp.drop (splitM p.inp).n }
def readHeadR (p : ReS) : ReS × Bool :=
  if (splitM p.inp).e = 17 then (p, false)
  else if (splitM p.inp).e ≠ 0 ∨ (slM (splitM p.inp).st).ok = false ∨ (slM (splitM p.inp).st).n = 101 then (reFail p, true)
  else if (slM (splitM p.inp).st).n < 200 then (if 5 < p.passed + 1 then (reFail { headP p with passed := p.passed + 1 }, true) else ({ headP p with passed := p.passed + 1 }, true))
  else if (reFrame (headP p) (headA p)).ok then ({ (reFrame (headP p) (headA p)).p with ans := some (reFrame (headP p) (headA p)).a }, true)
  else (reFail (headP p), true)
def readLengthR (p : ReS) : ReS × Bool :=
  if p.left - min p.left p.inp.length = 0 then ({ p with dat := p.dat ++ p.inp.take (min p.left p.inp.length), inp := p.inp.drop (min p.left p.inp.length), left := 0, st := 4 }, true)
  else ({ p with dat := p.dat ++ p.inp.take (min p.left p.inp.length), inp := p.inp.drop (min p.left p.inp.length), left := p.left - min p.left p.inp.length }, decide (0 < min p.left p.inp.length))
def closeP (p : ReS) : ReS := { p with dat := p.dat ++ p.inp.take (min (p.most - p.size) p.inp.length), size := p.size + min (p.most - p.size) p.inp.length, inp := p.inp.drop (min (p.most - p.size) p.inp.length) }
def readCloseR (p : ReS) : ReS × Bool :=
  if (closeP p).inp ≠ [] then (reFail (closeP p), true)
  else if p.shut then ({ closeP p with st := 4 }, true)
  else (closeP p, decide (0 < min (p.most - p.size) p.inp.length))
def reFinish (p : ReS) : ReS × Int :=
  if p.st = 4 then ({ p with ended := true }, 3) else if p.st == 5 || p.shut then (reFail p, 4) else (p, 0)
def reRest (p : ReS) : List UInt8 := if p.ended then p.inp else []
end Go.Proofs.YtdmffbefppjllaaGreatDoor

/- Layer 14: a reply in memory; New, Add, Shut, fail, finish, Rest. No conditions but on lengths. -/
namespace Go.Proofs.YtdmffbefppjllaaGreatDoor
open Go.RowKit Go.Shelf

def ansC (st : Int) (v : Value) (len : Int) (ch cl : Bool) : List Value := [.int .i64 st, v, .int .i64 len, .bool ch, .bool cl]
def reC (P : ReS) (cv av : Value) : List Value := [.bool P.head, .int .i64 (P.most : Nat), .int .i64 (P.st : Nat), .string (S P.inp), .string (S P.dat), .int .i64 (P.left : Nat), .int .i64 (P.size : Nat), .int .i64 (P.passed : Nat), cv, av, .bool P.shut, .bool P.ended]
/-- an answer in memory: its block and its fields' row lie in R -/
def AnsAt (B : Nat) (w : World) (R : List Nat) (av : Value) (o : Option Ans) : Prop :=
  match o with
  | none => av = .pointer none
  | some a => ∃ b v, av = .pointer (some ⟨b, 0, none⟩) ∧ b ∈ R ∧ Blk w b 47 (ansC a.st v a.len a.ch a.cl) ∧ Own Fld.cells 2 B 26 w v a.F ∧ ∀ g, v.ownBlock = some g → g ∈ R
/-- a chunked body's reader in memory, all of whose data was taken -/
def RckAt (B : Nat) (w : World) (p : Nat) (X : List Nat) (cv : Value) (o : Option Ck) : Prop :=
  match o with
  | none => cv = .pointer none
  | some c => ∃ b v, cv = .pointer (some ⟨b, 0, none⟩) ∧ b ≠ p ∧ b ∈ X ∧ Ct B w b c.dat c v ∧ ∀ g, v.ownBlock = some g → g ∈ X ∧ g ≠ p
theorem RckAt.keep {B p : Nat} {w w' : World} {X T : List Nat} {cv : Value} {o : Option Ck} (h : RckAt B w p X cv o) (k : Keep T w w') (hX : ∀ x ∈ X, x ≠ p → x ∉ T) : RckAt B w' p X cv o := by
  cases o with
  | none => exact h
  | some c =>
    obtain ⟨b, v, h1, h2, h3, h4, h5⟩ := h
    exact ⟨b, v, h1, h2, h3, h4.keep k (hX b h3 h2) (fun g hg => hX g (h5 g hg).1 (h5 g hg).2), h5⟩
/-- a reply in memory: X: what its calls write; R: what is only read -/
structure Re (B : Nat) (w : World) (p : Nat) (X R : List Nat) (P : ReS) : Prop where
  at' : ∃ cv av, Blk w p 73 (reC P cv av) ∧ RckAt B w p X cv P.chk ∧ AnsAt B w R av P.ans
  mem : p ∈ X
  lo : ∀ x ∈ X, B ≤ x ∧ x < w.heap.size
  ro : ∀ x ∈ R, B ≤ x ∧ x < w.heap.size ∧ x ∉ X
theorem AnsAt.keep {B : Nat} {w w' : World} {R T : List Nat} {av : Value} {o : Option Ans} (h : AnsAt B w R av o) (k : Keep T w w') (hR : ∀ x ∈ R, x ∉ T) : AnsAt B w' R av o := by
  cases o with
  | none => exact h
  | some a =>
    obtain ⟨b, v, h1, h2, h3, h4, h5⟩ := h
    exact ⟨b, v, h1, h2, k.blk h3 (hR b h2), h4.keep k (fun g hg => hR g (h5 g hg)), h5⟩
theorem Re.keep {B p : Nat} {w w' : World} {X R T : List Nat} {P : ReS} (h : Re B w p X R P) (k : Keep T w w') (hX : ∀ x ∈ X, x ∉ T) (hR : ∀ x ∈ R, x ∉ T) : Re B w' p X R P := by
  obtain ⟨⟨cv, av, h1, h2, h3⟩, h4, h5, h6⟩ := h
  exact ⟨⟨cv, av, k.blk h1 (hX p h4), h2.keep k (fun x hx _ => hX x hx), h3.keep k hR⟩, h4, fun x hx => ⟨(h5 x hx).1, Nat.lt_of_lt_of_le (h5 x hx).2 k.size⟩, fun x hx => ⟨(h6 x hx).1, Nat.lt_of_lt_of_le (h6 x hx).2.1 k.size, (h6 x hx).2.2⟩⟩
theorem Re.keep0 {B p : Nat} {w w' : World} {X R : List Nat} {P : ReS} (h : Re B w p X R P) (k : Keep [] w w') : Re B w' p X R P := h.keep k (by simp) (by simp)
theorem Re.lt {B p : Nat} {w : World} {X R : List Nat} {P : ReS} (h : Re B w p X R P) : p < w.heap.size := (h.lo p h.mem).2
theorem Re.base {B p : Nat} {w : World} {X R : List Nat} {P : ReS} (h : Re B w p X R P) : B ≤ p := (h.lo p h.mem).1
/-- a store into the reply's own block -/
theorem Re.set {B p : Nat} {w : World} {X R : List Nat} {P P' : ReS} (h : Re B w p X R P) (k : Nat) (x : Value) (hc : ∀ cv av, (reC P cv av).set k x = reC P' cv av) (h1 : P'.ans = P.ans) (h2 : P'.chk = P.chk) : Re B (w.setCell ⟨p, k, none⟩ x) p X R P' := by
  obtain ⟨⟨cv, av, b1, b2, b3⟩, h4, h5, h6⟩ := h
  have hk : Keep [p] w (w.setCell ⟨p, k, none⟩ x) := (Keep.refl _ _).setCell _ _ (by simp)
  refine ⟨⟨cv, av, ?_, ?_, ?_⟩, h4, fun y hy => ⟨(h5 y hy).1, Nat.lt_of_lt_of_le (h5 y hy).2 hk.size⟩, fun y hy => ⟨(h6 y hy).1, Nat.lt_of_lt_of_le (h6 y hy).2.1 hk.size, (h6 y hy).2.2⟩⟩
  · rw [← hc]; exact b1.set k x
  · rw [h2]; exact b2.keep hk (fun y _ hy => by simpa using hy)
  · rw [h1]; exact b3.keep hk (fun y hy => by simp only [List.mem_singleton]; rintro rfl; exact (h6 _ hy).2.2 h4)
theorem Re.at_ {B p : Nat} {w : World} {X R : List Nat} {P : ReS} (h : Re B w p X R P) : w.cell? ⟨p, 0, Option.none⟩ = some (.bool P.head) ∧ w.cell? ⟨p, 1, Option.none⟩ = some (.int .i64 (P.most : Nat)) ∧ w.cell? ⟨p, 2, Option.none⟩ = some (.int .i64 (P.st : Nat)) ∧ w.cell? ⟨p, 3, Option.none⟩ = some (.string (S P.inp)) ∧ w.cell? ⟨p, 4, Option.none⟩ = some (.string (S P.dat)) ∧
    w.cell? ⟨p, 5, Option.none⟩ = some (.int .i64 (P.left : Nat)) ∧ w.cell? ⟨p, 6, Option.none⟩ = some (.int .i64 (P.size : Nat)) ∧ w.cell? ⟨p, 7, Option.none⟩ = some (.int .i64 (P.passed : Nat)) ∧ w.cell? ⟨p, 10, Option.none⟩ = some (.bool P.shut) ∧ w.cell? ⟨p, 11, Option.none⟩ = some (.bool P.ended) := by
  obtain ⟨⟨cv, av, b1, _⟩, _⟩ := h
  exact ⟨b1.get (k := 0) rfl, b1.get (k := 1) rfl, b1.get (k := 2) rfl, b1.get (k := 3) rfl, b1.get (k := 4) rfl, b1.get (k := 5) rfl, b1.get (k := 6) rfl, b1.get (k := 7) rfl, b1.get (k := 10) rfl, b1.get (k := 11) rfl⟩
theorem Re.free {B p : Nat} {w : World} {X R : List Nat} {P : ReS} (h : Re B w p X R P) (k : Nat) : w.frozen? ⟨p, k, Option.none⟩ = false := let ⟨⟨_, _, b1, _⟩, _, _, _⟩ := h; b1.frozen k
theorem Re.keepX {B p : Nat} {w w' : World} {X R : List Nat} {P : ReS} (h : Re B w p X R P) (k : Keep [p] w w') : Keep X w w' := k.mono (fun x hx _ => by simp at hx; subst hx; exact h.mem)

set_option maxHeartbeats 1000000 in
set_option maxRecDepth 100000 in
theorem reply_New (B : Nat) (hd : Bool) (most : Int) (w : World) (hB : B ≤ w.heap.size) :
    Calls Tryz.prog 16 #[.bool hd, .int .i64 most] w fun e w' => ∃ p, e = .returned (.pointer (some ⟨p, 0, Option.none⟩)) ∧ w.heap.size ≤ p ∧ Re B w' p [p] [] (reNew hd most) ∧ Keep [] w w' := by
  obtain ⟨m, hm⟩ : ∃ m : Nat, (max most 0).toNat = m := ⟨_, rfl⟩
  have hmx : max most 0 = (m : Int) := by omega
  have HE := Lib.hid (show reNew hd most = ⟨hd, m, 0, [], [], 0, 0, 0, none, none, false, false⟩ by unfold reNew; rw [hm])
  have H := Lib.hid (Blk.newA w (reC ⟨hd, m, 0, [], [], 0, 0, 0, none, none, false, false⟩ (.pointer Option.none) (.pointer Option.none)).toArray 73)
  clear hm
  go_enter Tryz.func16, Tryz.ntmps16
  go_wp2_with fail
  go_ret
  rw [HE.out]
  exact ⟨w.heap.size, rfl, Nat.le_refl _, ⟨⟨.pointer Option.none, .pointer Option.none, H.out, rfl, rfl⟩, by simp, fun x hx => by simp at hx; subst hx; simp; omega, by simp⟩, (Keep.refl [] w).alloc _⟩
set_option maxHeartbeats 1000000 in
set_option maxRecDepth 100000 in
theorem reply_fail {B p : Nat} {X R : List Nat} {P : ReS} {w : World} (h : Re B w p X R P) :
    Calls Tryz.prog 76 #[.pointer (some ⟨p, 0, Option.none⟩)] w fun e w' => e = .returned (.bool true) ∧ Re B w' p X R (reFail P) ∧ Keep [p] w w' := by
  obtain ⟨c0, c1, c2, c3, c4, c5, c6, c7, c10, c11⟩ := h.at_
  have f2 := h.free 2
  have H := Lib.hid h
  clear h
  go_enter Tryz.func76, Tryz.ntmps76
  go_wp2_with fail
  go_ret
  exact ⟨rfl, H.out.set 2 (.int .i64 5) (fun _ _ => rfl) rfl rfl, (Keep.refl _ _).setCell _ _ (by simp)⟩
set_option maxHeartbeats 1000000 in
set_option maxRecDepth 100000 in
theorem reply_Rest {B p : Nat} {X R : List Nat} {P : ReS} {w : World} (h : Re B w p X R P) :
    Calls Tryz.prog 19 #[.pointer (some ⟨p, 0, Option.none⟩)] w fun e w' => e = .returned (.string (S (reRest P))) ∧ w = w' := by
  obtain ⟨c0, c1, c2, c3, c4, c5, c6, c7, c10, c11⟩ := h.at_
  have HE : reRest P = if P.ended then P.inp else [] := rfl
  clear h
  cases he : P.ended with
  | false =>
    rw [he] at c11 HE
    have HR := Lib.hid HE
    clear HE he
    go_enter Tryz.func19, Tryz.ntmps19
    go_wp2_with fail
    go_ret
    rw [HR.out]
    exact ⟨rfl, rfl⟩
  | true =>
    rw [he] at c11 HE
    have HR := Lib.hid HE
    clear HE he
    go_enter Tryz.func19, Tryz.ntmps19
    go_wp2_with fail
    go_ret
    rw [HR.out]
    exact ⟨rfl, rfl⟩
set_option maxHeartbeats 1000000 in
set_option maxRecDepth 100000 in
theorem reply_finish {B p : Nat} {X R : List Nat} {P : ReS} {w : World} (h : Re B w p X R P) (_hs : P.st ≤ 5) :
    Calls Tryz.prog 36 #[.pointer (some ⟨p, 0, Option.none⟩)] w fun e w' => e = .returned (.int .i64 (reFinish P).2) ∧ Re B w' p X R (reFinish P).1 ∧ Keep [p] w w' := by
  obtain ⟨c0, c1, c2, c3, c4, c5, c6, c7, c10, c11⟩ := h.at_
  have f11 := h.free 11
  have f2 := h.free 2
  have hE : reFinish P = if P.st = 4 then ({ P with ended := true }, 3) else if P.st == 5 || P.shut then (reFail P, 4) else (P, 0) := rfl
  have H := Lib.hid h
  clear h
  by_cases h4 : P.st = 4
  · rw [if_pos h4] at hE
    have HE := Lib.hid hE
    rw [h4] at c2
    clear hE h4
    go_enter Tryz.func36, Tryz.ntmps36
    go_wp2_with fail
    go_ret
    rw [HE.out]
    exact ⟨rfl, H.out.set 11 (.bool true) (fun _ _ => rfl) rfl rfl, (Keep.refl _ _).setCell _ _ (by simp)⟩
  rw [if_neg h4] at hE
  by_cases h5 : P.st = 5
  · rw [h5] at hE
    have HE := Lib.hid (show reFinish P = (reFail P, 4) from hE)
    rw [h5] at c2
    clear hE h4 h5
    go_enter Tryz.func36, Tryz.ntmps36
    go_wp2_with fail
    go_ret
    rw [HE.out]
    exact ⟨rfl, H.out.set 2 (.int .i64 5) (fun _ _ => rfl) rfl rfl, (Keep.refl _ _).setCell _ _ (by simp)⟩
  have q1 : (((P.st : Nat) : Int) == 4) = false := by simp; omega
  have q2 : (((P.st : Nat) : Int) == 5) = false := by simp; omega
  have q3 : (P.st == 5) = false := by simpa using h5
  rw [q3] at hE
  cases hsh : P.shut with
  | true =>
    rw [hsh] at hE c10
    have HE := Lib.hid (show reFinish P = (reFail P, 4) from hE)
    clear hE h4 h5 q3 hsh
    go_enter Tryz.func36, Tryz.ntmps36
    go_wp2_with fail
    go_ret
    rw [HE.out]
    exact ⟨rfl, H.out.set 2 (.int .i64 5) (fun _ _ => rfl) rfl rfl, (Keep.refl _ _).setCell _ _ (by simp)⟩
  | false =>
    rw [hsh] at hE c10
    have HE := Lib.hid (show reFinish P = (P, 0) from hE)
    clear hE h4 h5 q3 hsh
    go_enter Tryz.func36, Tryz.ntmps36
    go_wp2_with fail
    go_ret
    rw [HE.out]
    exact ⟨rfl, H.out, Keep.refl _ _⟩
set_option maxHeartbeats 2000000 in
set_option maxRecDepth 100000 in
theorem reply_Add {B p : Nat} {X R : List Nat} {P : ReS} {w : World} (s : List UInt8) (h : Re B w p X R P) (hl : P.inp.length + P.dat.length ≤ 1048576) (hs : s.length ≤ 1048576) :
    Calls Tryz.prog 17 #[.pointer (some ⟨p, 0, Option.none⟩), .string (S s)] w fun e w' => e = .returned (.int .i64 (reAdd P s).2) ∧ Re B w' p X R (reAdd P s).1 ∧ Keep [p] w w' := by
  obtain ⟨c0, c1, c2, c3, c4, c5, c6, c7, c10, c11⟩ := h.at_
  have f3 := h.free 3
  have sz := S_size s
  have sz2 := S_size P.inp
  have sz3 := S_size P.dat
  have hA : reAdd P s = if (16384 : Int) - P.inp.length - P.dat.length < s.length then (P, 6) else if P.shut || P.st == 5 then (P, 0) else ({ P with inp := P.inp ++ s }, 0) := rfl
  have H := Lib.hid h
  have w1 := IntWalk.i64_in ((16384 : Int) - (P.inp.length : Int)) (by omega)
  have w2 := IntWalk.i64_in ((16384 : Int) - (P.inp.length : Int) - (P.dat.length : Int)) (by omega)
  have q3 := S_append P.inp s
  have hov : ¬ 9223372036854775807 < P.inp.length + s.length := by omega
  clear h
  by_cases h6 : (16384 : Int) - P.inp.length - P.dat.length < s.length
  · rw [if_pos h6] at hA
    have HA := Lib.hid hA
    have q2 : decide ((s.length : Int) > (16384 : Int) - P.inp.length - P.dat.length) = true := by simp; omega
    clear hA
    go_enter Tryz.func17, Tryz.ntmps17
    go_wp2_with fail
    go_region_with fail
    all_goals
      go_wp2_with fail
      go_ret
      rw [HA.out]
      exact ⟨rfl, by repeat (first | exact H.out | apply Re.keep0 _ (Keep.drew (Keep.refl _ _))), by repeat (first | exact Keep.refl _ _ | apply Keep.drew)⟩
  rw [if_neg h6] at hA
  have q2 : decide ((s.length : Int) > (16384 : Int) - P.inp.length - P.dat.length) = false := by simp; omega
  clear h6
  cases hsh : P.shut with
  | true =>
    rw [hsh] at c10
    have HA := Lib.hid (show reAdd P s = (P, 0) by rw [hA, if_pos (by simp [hsh])])
    clear hA hsh
    go_enter Tryz.func17, Tryz.ntmps17
    go_wp2_with fail
    go_region_with fail
    all_goals
      go_wp2_with fail
      go_ret
      rw [HA.out]
      exact ⟨rfl, H.out.keep0 ((Keep.refl _ _).drew), (Keep.refl _ _).drew⟩
  | false =>
    rw [hsh] at c10
    by_cases h5 : P.st = 5
    · have HA := Lib.hid (show reAdd P s = (P, 0) by rw [hA, if_pos (by simp [h5])])
      rw [h5] at c2
      clear hA hsh h5
      go_enter Tryz.func17, Tryz.ntmps17
      go_wp2_with fail
      go_region_with fail
      all_goals
        go_wp2_with fail
        go_ret
        rw [HA.out]
        exact ⟨rfl, H.out.keep0 ((Keep.refl _ _).drew), (Keep.refl _ _).drew⟩
    · have HA := Lib.hid (show reAdd P s = ({ P with inp := P.inp ++ s }, 0) by rw [hA, if_neg (by simp [hsh, h5])])
      have q4 : (((P.st : Nat) : Int) == 5) = false := by simp; omega
      clear hA hsh h5
      go_enter Tryz.func17, Tryz.ntmps17
      go_wp2_with fail
      go_region_with fail
      all_goals
        go_wp2_with fail
        go_ret
        rw [HA.out]
        exact ⟨rfl, (H.out.keep0 ((Keep.refl _ _).drew)).set 3 (.string (S (P.inp ++ s))) (fun _ _ => rfl) rfl rfl, ((Keep.refl _ _).drew).setCell _ _ (by simp)⟩
end Go.Proofs.YtdmffbefppjllaaGreatDoor
