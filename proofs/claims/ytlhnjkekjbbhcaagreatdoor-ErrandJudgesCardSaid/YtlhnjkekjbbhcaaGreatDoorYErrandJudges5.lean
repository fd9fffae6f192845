/- Parts of the proof of ErrandJudges, in order. No conditions but those that each theorem states. -/
import Derived.Test.YtlhnjkekjbbhcaaGreatDoorYErrandJudges0
import Derived.Maps.OwnOps
import Derived.Maps.OwnSet
import Derived.DeepKeys4
import Derived.Deep.MidRow
import Derived.Deep.WholeRow
import Derived.Deep.RegionHeld3
import Derived.Deep.Cut
import Derived.Deep.CutRange
import Derived.Deep.DeepCutAuto
import Derived.Deep.LoopGhost
import Derived.Lib.BufferWrite
import Derived.Test.YtlhnjkekjbbhcaaGreatDoorYErrandJudges3
import Derived.Test.YtlhnjkekjbbhcaaGreatDoorYErrandJudges4
namespace Go.Proofs.YtlhnjkekjbbhcaaGreatDoor
open Go.RowKit Go.Shelf
def dV (b : UInt8) : Nat := (digV b).toNat
def decR : List UInt8 → Option (List UInt8)
  | a :: b :: r => if digOk a && digOk b then (decR r).map (fun o => UInt8.ofNat (16 * dV a + dV b) :: o) else none
  | _ => some []
theorem dV_all (b : UInt8) : dV b < 16 ∧ (digOk b = true → digV b = (dV b : Int)) := by
  have key : ∀ n : Fin 256, dV (UInt8.ofNat n.1) < 16 ∧ (digOk (UInt8.ofNat n.1) = true → digV (UInt8.ofNat n.1) = (dV (UInt8.ofNat n.1) : Int)) := by decide +kernel
  exact all_u8 (p := fun b => dV b < 16 ∧ (digOk b = true → digV b = (dV b : Int))) key b
theorem dg_dig {n : Nat} (h : n < 16) : digOk (dgH n) = true ∧ dV (dgH n) = n := by
  have key : ∀ n : Fin 16, digOk (dgH n.1) = true ∧ dV (dgH n.1) = n.1 := by decide +kernel
  exact key ⟨n, h⟩
theorem decR_hex : ∀ o : List UInt8, decR (hexS o) = some o
  | [] => rfl
  | x :: o => by
    have e : hexS (x :: o) = dgH (x.toNat / 16) :: dgH (x.toNat % 16) :: hexS o := rfl; have hx := x.toNat_lt; obtain ⟨h1, h2⟩ := dg_dig (n := x.toNat / 16) (by omega); obtain ⟨h3, h4⟩ := dg_dig (n := x.toNat % 16) (by omega); rw [e]; unfold decR; rw [h1, h3, h2, h4, decR_hex o]; have : 16 * (x.toNat / 16) + x.toNat % 16 = x.toNat := by omega
    simp [this]
theorem unhex_dec (s : List UInt8) : unhexM s = match decR s with | none => none | some o => if hexS o = s then some o else none := by
  cases hu : unhexM s with
  | some o =>
    have h1 := hex_unhex s o hu; have h2 := decR_hex o; rw [h1] at h2; rw [h2]; dsimp only; rw [if_pos h1]
  | none =>
    cases hd : decR s with
    | none => rfl
    | some o =>
      dsimp only
      split
      · rename_i h; have := unhex_hex o; rw [h, hu] at this; cases this
      · rfl
set_option maxRecDepth 100000 in
set_option maxHeartbeats 4000000 in
theorem ref01_Unhex (s : List UInt8) (w : World) (hs : s.length ≤ 1048576) :
    Calls Tryz.prog 93 #[.string (S s)] w fun e w' => e = unhexOut (unhexM s) ∧ Keep [] w w' := by
  have hsz := S_size s; obtain ⟨i0, hi, hz0, hz1, hz2⟩ := info_parts u8info; have HI := Lib.hid (And.intro hi (And.intro hz0 (And.intro hz1 hz2))); have HUD := Lib.hid (unhex_dec s); clear hi hz0 hz1 hz2; go_enter Tryz.func93, Tryz.ntmps93; go_wp2_with fail
  go_loopg [4, 5] (s.length + 1) (fun g v i wr => ∃ (m : Nat) (acc : List UInt8), i = .int .i64 (m : Nat) ∧ m ≤ s.length ∧ g = s.length + 1 - m ∧ Hid (m = 2 * acc.length) ∧ Hid (decR s = (decR (s.drop m)).map (acc ++ ·)) ∧ Hid (Own byteC 1 w.heap.size 5 wr v acc) ∧ Hid (Keep [] w wr))
  case atStart => exact ⟨0, [], rfl, Nat.zero_le _, rfl, Lib.hid rfl, Lib.hid (by cases h : decR s <;> simp [h]), Lib.hid (Own.none byteC 1 5 _ (Nat.le_refl _)), Lib.hid ((Keep.refl [] w).alloc _)⟩
  case round =>
    obtain ⟨m, acc, rfl, hm, hg, HM2, HU, HOw, HK⟩ := hrel; have wk1 := IntWalk.i64_in ((m : Int) + 1) (by omega); have hlen : acc.length ≤ 524288 := by have := HM2.out; omega
    by_cases hlt : m + 1 < s.length
    · have q0 : decide ((m : Int) + 1 < (s.length : Int)) = true := by simp; omega
      obtain ⟨a, ha⟩ : ∃ a, s[m]? = some a := ⟨_, List.getElem?_eq_getElem (by omega)⟩
      obtain ⟨b, hb⟩ : ∃ b, s[m + 1]? = some b := ⟨_, List.getElem?_eq_getElem hlt⟩
      have hga := S_get ha; have hgb := S_get hb; have HA := Lib.hid (fun w' => ref_Value a w'); have HB := Lib.hid (fun w' => ref_Value b w'); have HD := Lib.hid (drop_two ha hb); obtain ⟨hva, hda⟩ := dV_all a; obtain ⟨hvb, hdb⟩ := dV_all b; have wk := IntWalk.i64_in ((m : Int) + 2) (by omega); have n1 : ((m : Int) + 1).toNat = m + 1 := by omega
      have i1 : (0 : Int) ≤ (m : Int) + 1 := by omega
      have i2 : (m : Int) + 1 < (s.length : Int) := by omega
      have i3 : (m : Int) < (s.length : Int) := by omega
      have HUn := Lib.hid (show decR (a :: b :: s.drop (m + 2)) = if digOk a && digOk b then (decR (s.drop (m + 2))).map (fun o => UInt8.ofNat (16 * dV a + dV b) :: o) else none from by rw [decR]); have HZ := Lib.hid (ofNat_two hva hvb); clear ha hb
      cases hoa : digOk a with
      | false =>
        rw [hoa] at HA HUn; have HR := Lib.hid (show unhexM s = none by rw [HUD.out, HU.out, HD.out, HUn.out]; rfl); clear hda hdb; generalize (if digOk b = true then digV b else -1) = vv at HB; go_wp2_with fail; refine (HA.out _).mono ?_; rintro e w5 ⟨rfl, rfl⟩; go_wp2_with fail; refine (HB.out _).mono ?_; rintro e w6 ⟨rfl, rfl⟩; go_wp2_with fail; go_ret2; exact ⟨by rw [HR.out]; rfl, HK.out⟩
      | true =>
        have hda := hda hoa; rw [hoa, hda] at HA; rw [hoa] at HUn
        cases hob : digOk b with
        | false =>
          rw [hob] at HB HUn; have HR := Lib.hid (show unhexM s = none by rw [HUD.out, HU.out, HD.out, HUn.out]; rfl); clear hda hdb; generalize dV a = va at *; go_wp2_with fail; refine (HA.out _).mono ?_; rintro e w5 ⟨rfl, rfl⟩; go_wp2_with fail; refine (HB.out _).mono ?_; rintro e w6 ⟨rfl, rfl⟩; go_wp2_with fail; go_ret2; exact ⟨by rw [HR.out]; rfl, HK.out⟩
        | true =>
          have hdb := hdb hob; rw [hob, hdb] at HB; rw [hob] at HUn
          have HR := Lib.hid (show decR s = (decR (s.drop (m + 2))).map ((acc ++ [UInt8.ofNat (16 * dV a + dV b)]) ++ ·) by
            rw [HU.out, HD.out, HUn.out]; cases h : decR (s.drop (m + 2)) <;> simp)
          clear hda hdb; generalize dV a = va at *; generalize dV b = vb at *; go_wp2_with fail; refine (HA.out _).mono ?_; rintro e w5 ⟨rfl, rfl⟩; go_wp2_with fail; refine (HB.out _).mono ?_; rintro e w6 ⟨rfl, rfl⟩
          go_wp2_with (first
            | (at_builtin
               go_must (refine wpList_append1 rfl _ _ 143 rfl i0 (.int .u8 0) 1 Tryz.underlying143 HI rfl (by decide) byteC_length byteC_one w wr rfl HK.out (by rfl) HOw.out (UInt8.ofNat (16 * va + vb)) _ (by simp only [byteC, HZ.out]; push_cast; rfl) _ rfl (by unfold maxLen; omega) (by omega) ?_); intro v' w7 hown' hk' hg')
            | fail)
          go_roundg (s.length + 1 - (m + 2))
          case measure => omega
          case rel => exact ⟨m + 2, _, by go_num, by omega, rfl, Lib.hid (by have := HM2.out; simp; omega), HR, Lib.hid hown', Lib.hid hk'⟩
    · have q0 : decide ((m : Int) + 1 < (s.length : Int)) = false := by simp; omega
      have hds : decR (s.drop m) = some [] := by
        have hl : (s.drop m).length ≤ 1 := by rw [List.length_drop]; omega
        cases hh : s.drop m with
        | nil => rfl
        | cons x r =>
          rw [hh] at hl
          cases r with
          | nil => rfl
          | cons y r => simp at hl
      have HR := Lib.hid (show unhexM s = if hexS acc = s then some acc else none by rw [HUD.out, HU.out, hds]; simp); have hback := own_back (P := Tryz.prog) HOw.out 143 9 Tryz.underlying143 Tryz.underlying5 Tryz.underlying9; have HH := Lib.hid (fun w' => ref01_Hex acc w' (by omega)); have t1 := S_toList (hexS acc); have t2 := S_toList s; clear hds; by_cases hc : hexS acc = s
      · have q1 : (hexS acc == s) = true := by simp [hc]
        have q2 : (hexS acc != s) = false := by simp [hc]
        rw [if_pos hc] at HR; clear hc; generalize hexS acc = hx at *; go_wp2_with fail; refine (HH.out _).mono ?_; rintro e w5 ⟨rfl, k5⟩; have K5 := Lib.hid (HK.out.trans k5); have hback := own_back (P := Tryz.prog) (HOw.out.keep0 k5) 143 9 Tryz.underlying143 Tryz.underlying5 Tryz.underlying9; clear k5; go_wp2_with fail; go_ret2; exact ⟨by rw [HR.out]; rfl, K5.out⟩
      · have q1 : (hexS acc == s) = false := by simp [hc]
        have q2 : (hexS acc != s) = true := by simp [hc]
        rw [if_neg hc] at HR; clear hc; generalize hexS acc = hx at *; go_wp2_with fail; refine (HH.out _).mono ?_; rintro e w5 ⟨rfl, k5⟩; have K5 := Lib.hid (HK.out.trans k5); clear k5; go_wp2_with fail; go_ret2; exact ⟨by rw [HR.out]; rfl, K5.out⟩
end Go.Proofs.YtlhnjkekjbbhcaaGreatDoor
namespace Go.Proofs.YtlhnjkekjbbhcaaGreatDoor
open Go.RowKit Go.Maps
abbrev Dig := { l : List UInt8 // l.length = 32 }
instance : Inhabited Dig := ⟨⟨List.replicate 32 0, by simp⟩⟩
def digC (d : Dig) : List Value := d.1.map fun b => .int .u8 (b.toNat : Nat)
theorem digC_length (d : Dig) : (digC d).length = 32 := by simp [digC, d.2]
theorem map_inj {α β : Type} {f : α → β} (hf : ∀ x y, f x = f y → x = y) : ∀ (a b : List α), a.map f = b.map f → a = b
  | [], [], _ => rfl
  | [], y :: s, h => by simp at h
  | x :: r, [], h => by simp at h
  | x :: r, y :: s, h => by
    simp only [List.map_cons, List.cons.injEq] at h; rw [hf x y h.1, map_inj hf r s h.2]
theorem flatten_one {α β : Type} (f : α → β) : ∀ l : List α, (l.map fun x => [f x]).flatten = l.map f
  | [] => rfl
  | x :: r => by simp [flatten_one f r]
theorem range_map {α : Type} (l : List UInt8) (f : UInt8 → α) : (List.range l.length).map (fun i => f (l.getD i 0)) = l.map f := by
  apply List.ext_getElem?; intro j; by_cases h : j < l.length
  · simp [h, List.getD]
  · simp [h]
theorem mapM_some {α β : Type} (f : α → Option β) (h : α → β) : ∀ (l : List α), (∀ x ∈ l, f x = some (h x)) → l.mapM f = some (l.map h)
  | [], _ => rfl
  | x :: r, hx => by
    rw [List.mapM_cons, hx x (by simp), mapM_some f h r (fun y hy => hx y (by simp [hy]))]; rfl
theorem keyLits_bytes {P : Program} {t e : TypeId} {n : Nat} (ht : P.underlying t = some (.array n e)) (he : P.underlying e = some (.int .u8)) (hce : P.cellsOf e = 1) (hct : P.cellsOf t = n) (D : Nat) (l : List UInt8) (hl : l.length = n) :
    P.keyLits (D + 2) t (l.map fun b => .int .u8 (b.toNat : Nat)) = some (l.map fun b => .int .u8 (b.toNat : Nat)) := by
  have h1 : ∀ i ∈ List.range n, P.keyLits (D + 1) e (((l.map fun b => Value.int .u8 (b.toNat : Nat)).drop (i * P.cellsOf e)).take (P.cellsOf e)) = some [Lit.int .u8 ((l.getD i 0).toNat : Nat)] := fun i hi => by
    have hlt : i < l.length := by rw [hl]; exact List.mem_range.1 hi
    rw [hce, Nat.mul_one]
    have e1 : ((l.map fun b => Value.int .u8 (b.toNat : Nat)).drop i).take 1 = [Value.int .u8 ((l.getD i 0).toNat : Nat)] := by
      rw [← List.map_drop, ← List.map_take, List.drop_eq_getElem_cons hlt]; have e2 : l.getD i 0 = l[i] := by simp [List.getD, hlt]
      rw [e2]; rfl
    rw [e1]; unfold Program.keyLits; rw [he]; generalize l.getD i 0 = c; have := u8_nat c; have hw : (Lit.int .u8 (c.toNat : Nat)).wf = true := by simp [Lit.wf, IntKind.min, IntKind.max, IntKind.signed, IntKind.bits]; omega
    simp [hw]
  unfold Program.keyLits; rw [ht]; simp only; rw [if_pos (by rw [hct]; simp [hl]), mapM_some _ _ _ h1]; simp only [Option.map_some]; rw [flatten_one (fun i => Lit.int .u8 ((l.getD i 0).toNat : Nat)), ← hl]; exact congrArg some (range_map l (fun b => Lit.int .u8 (b.toNat : Nat)))
theorem keyBytes_bytes (l : List UInt8) : keyBytes (l.map fun b => Lit.int .u8 (b.toNat : Nat)) = l := by
  induction l with
  | nil => rfl
  | cons b r ih =>
    unfold keyBytes at *; simp only [List.map_cons, List.flatMap_cons, ih]; have := u8_nat b
    have e : Lit.keyBytes (.int .u8 (b.toNat : Nat)) = [b] := by
      have e1 : (((b.toNat : Nat) : Int) % 2 ^ IntKind.u8.bits).toNat = b.toNat := by
        simp only [IntKind.bits]; omega
      simp only [Lit.keyBytes, e1]; show [UInt8.ofNat (b.toNat % 256)].reverse = [b]; rw [Nat.mod_eq_of_lt this]; simp
    rw [e]; rfl
theorem dig_key (d : Dig) : keyOf Tryz.prog 23 (.agg (digC d).toArray) = some (.string d.1) := by
  have hk : Tryz.prog.keyType 23 = true := by kernel_rfl
  have hc : Tryz.prog.cellsOf 23 = 32 := by kernel_rfl
  have h1 : Tryz.prog.cellsOf 5 = 1 := by kernel_rfl
  have hf : Value.formed Tryz.prog 23 (.agg (digC d).toArray) = true := by
    unfold Value.formed; rw [Tryz.underlying23]; simp [hc, digC_length]
  unfold keyOf; rw [Tryz.underlying23]; simp only [hk, hf, Bool.and_self, if_true]; have hs : Tryz.prog.types.size + 1 = (Tryz.prog.types.size - 1) + 2 := by kernel_rfl
  rw [hs]; have := keyLits_bytes Tryz.underlying23 Tryz.underlying5 h1 hc (Tryz.prog.types.size - 1) d.1 d.2; have e : (Value.agg (digC d).toArray).cells.toList = d.1.map fun b => Value.int .u8 (b.toNat : Nat) := by simp [Value.cells, digC]
  rw [e, this]; simp [keyBytes_bytes]
theorem wpList_store_new {P : Program} {ops : Array Oper} {rest : List Oper} {op : Oper} {a : Act} {w : World} {Q : Exit → Act → World → Prop} (hgd : op.guard = none) (ty : TypeId) (x y : Operand) (ho : op.op = .store ty x y)
    (Z : Array Value) (cells : List Value) (hx : a.eval x = .pointer (some ⟨w.heap.size, 0, none⟩)) (hy : a.eval y = .agg cells.toArray) (hi : (P.info? ty).map (·.size) = some cells.length) (hz : Z.size = cells.length)
    (h1 : ∀ v ∈ cells, v.oneCell' = true) (h : wpList P ops Q rest (a.put op.dst undef) (w.alloc (.cells cells.toArray ty))) : wpList P ops Q (op :: rest) a (w.alloc (.cells Z ty)) :=
  wpList_plain hgd fun _ hK => by
    unfold Oper.wp execOp; simp only [ho, hx, hy, Instr.storeAt, Instr.sureAddr, Sem.run_bind, Sem.run_pure, Result.andThen_ok, run_storeVar_new (P := P) w ty Z cells.toArray (by simpa using hi) (by simpa using hz) (all_oneCell_toArray h1)]; exact hK _ _ h
end Go.Proofs.YtlhnjkekjbbhcaaGreatDoor
namespace Go.Proofs.YtlhnjkekjbbhcaaGreatDoor
open Go.RowKit Go.Shelf
def bodyT (K : List Fld) : List UInt8 := K.flatMap fun f => printF f ++ [13, 10]
def headT (st : List UInt8) (K : List Fld) : List UInt8 := st ++ [13, 10] ++ bodyT K ++ [13, 10]
theorem loop_n_le (s st : List UInt8) : ∀ (k : Nat) (F : List Fld) (n : Nat), n ≤ s.length → n ≤ 4096 → (loopM s st k F n).n ≤ s.length
  | 0, F, n, h, _ => h
  | k + 1, F, n, h, h2 => by
    have hb := next_bounds h h2; unfold loopM; by_cases h4 : (nextM s n).2.2 ≠ 0
    · rw [if_pos h4]; exact hb.1
    · rw [if_neg h4]; by_cases h5 : (nextM s n).1 = []
      · rw [if_pos h5]; exact hb.1
      · rw [if_neg h5]; by_cases h6 : (addM F (nextM s n).1).2 ≠ 0
        · rw [if_pos h6]; exact hb.1
        · rw [if_neg h6]; exact loop_n_le s st k _ _ hb.1 hb.2.1
theorem split_n_le (s : List UInt8) : (splitM s).n ≤ s.length := by
  have hb := next_bounds (s := s) (n := 0) (Nat.zero_le _) (Nat.zero_le _)
  have hr : (readM s).n ≤ s.length := by
    unfold readM; by_cases h4 : (nextM s 0).2.2 ≠ 0
    · rw [if_pos h4]; exact hb.1
    · rw [if_neg h4]; by_cases h6 : beginE (nextM s 0).1 ≠ 0
      · rw [if_pos h6]; exact hb.1
      · rw [if_neg h6]; exact loop_n_le s _ _ _ _ hb.1 hb.2.1
  unfold splitM
  split
  · simp
  · exact hr
end Go.Proofs.YtlhnjkekjbbhcaaGreatDoor
namespace Go.Proofs.YtlhnjkekjbbhcaaGreatDoor
open Go.RowKit
structure Ck where
  st : Nat
  left : Nat
  most : Nat
  flds : Nat
  inp : List UInt8
  dat : List UInt8
  err : Int
def Ck.add (c : Ck) (s : List UInt8) : Ck := { c with inp := c.inp ++ s }
structure LnR where
  t : List UInt8
  e : Int
  r : List UInt8
def crlfC : List UInt8 := [13, 10]
def lnC (l : List UInt8) : LnR :=
  if Lib.indexByte (l.take 256) 10 < 0 then (if 256 ≤ l.length then ⟨[], 3, l⟩ else ⟨[], 17, l⟩)
  else if Lib.hasSuffix (l.take ((Lib.indexByte (l.take 256) 10).toNat + 1)) crlfC then ⟨Lib.trimSuffix (l.take ((Lib.indexByte (l.take 256) 10).toNat + 1)) crlfC, 0, l.drop ((Lib.indexByte (l.take 256) 10).toNat + 1)⟩ else ⟨[], 3, l⟩
def digitsB : List UInt8 := [48, 49, 50, 51, 52, 53, 54, 55, 56, 57, 97, 98, 99, 100, 101, 102, 65, 66, 67, 68, 69, 70]
def restOk (r : List UInt8) : Bool := r.isEmpty || (isTxt r && decide (0 ≤ Lib.indexByte [32, 9, 59] (r.getD 0 0)))
def numRest (t : List UInt8) : List UInt8 := Lib.trimLeftS t digitsB
def numT (t : List UInt8) : List UInt8 := t.take (t.length - (numRest t).length)
def numE (t : List UInt8) (m : Int) : Int := if restOk (numRest t) then (if unhexE (numT t) m = 14 then 4 else unhexE (numT t) m) else 3
def numV (t : List UInt8) (m : Int) : Int := unhexV (numT t) m
def beginM (c : Ck) : Ck × Int :=
  if (lnC c.inp).e ≠ 0 then (c, (lnC c.inp).e)
  else if numE (lnC c.inp).t ((c.most : Int) - c.dat.length) ≠ 0 then ({ c with inp := (lnC c.inp).r }, numE (lnC c.inp).t ((c.most : Int) - c.dat.length))
  else ({ c with inp := (lnC c.inp).r, left := (numV (lnC c.inp).t ((c.most : Int) - c.dat.length)).toNat, st := if numV (lnC c.inp).t ((c.most : Int) - c.dat.length) = 0 then 3 else 1 }, 0)
def dataM (c : Ck) : Ck × Int :=
  if 0 < c.left - min c.left c.inp.length then ({ c with inp := c.inp.drop (min c.left c.inp.length), dat := c.dat ++ c.inp.take (min c.left c.inp.length), left := c.left - min c.left c.inp.length }, 17)
  else ({ c with inp := c.inp.drop (min c.left c.inp.length), dat := c.dat ++ c.inp.take (min c.left c.inp.length), left := c.left - min c.left c.inp.length, st := 2 }, 0)
def closeM (c : Ck) : Ck × Int :=
  if c.inp.take 2 ≠ crlfC.take c.inp.length then (c, 3)
  else if c.inp.length < 2 then (c, 17)
  else ({ c with inp := c.inp.drop 2, st := 0 }, 0)
def trailM (c : Ck) : Ck × Int :=
  if (lnC c.inp).e ≠ 0 then (c, (lnC c.inp).e)
  else if (lnC c.inp).t = [] then ({ c with inp := (lnC c.inp).r, st := 4 }, 0)
  else if parseE (lnC c.inp).t ≠ 0 then ({ c with inp := (lnC c.inp).r }, parseE (lnC c.inp).t)
  else ({ c with inp := (lnC c.inp).r, flds := c.flds + 1 }, if 16 < c.flds + 1 then 4 else 0)
def stepM (c : Ck) : Ck × Int := if c.st = 0 then beginM c else if c.st = 1 then dataM c else if c.st = 2 then closeM c else if c.st = 3 then trailM c else (c, 17)
theorem suffix_len {a b : List UInt8} (h : Lib.hasSuffix a b = true) : b.length ≤ a.length := by
  unfold Lib.hasSuffix at h; rw [List.isSuffixOf_iff_suffix] at h; exact h.length_le
theorem line_short {l : List UInt8} (h : Lib.indexByte (l.take 256) 10 < 0) : lnC l = if 256 ≤ l.length then ⟨[], 3, l⟩ else ⟨[], 17, l⟩ := by unfold lnC; rw [if_pos h]
theorem line_at {l : List UInt8} {k : Nat} (h : Lib.indexByte (l.take 256) 10 = (k : Nat)) : lnC l = if Lib.hasSuffix (l.take (k + 1)) crlfC then ⟨Lib.trimSuffix (l.take (k + 1)) crlfC, 0, l.drop (k + 1)⟩ else ⟨[], 3, l⟩ := by
  unfold lnC; rw [if_neg (by omega), h]; rfl
theorem line_cases (l : List UInt8) : Lib.indexByte (l.take 256) 10 < 0 ∨ ∃ k : Nat, Lib.indexByte (l.take 256) 10 = (k : Nat) ∧ k < l.length ∧ k < 256 := by
  by_cases h : Lib.indexByte (l.take 256) 10 < 0
  · exact .inl h
  · obtain ⟨k, hk⟩ : ∃ k : Nat, Lib.indexByte (l.take 256) 10 = (k : Nat) := ⟨(Lib.indexByte (l.take 256) 10).toNat, by omega⟩
    have := (List.getElem?_eq_some_iff.1 (Lib.indexByte_some hk).1).1; rw [List.length_take] at this; exact .inr ⟨k, hk, by omega, by omega⟩
theorem line_le (l : List UInt8) : (lnC l).r.length ≤ l.length ∧ ((lnC l).e = 0 → (lnC l).r.length + 2 ≤ l.length) ∧ (lnC l).t.length ≤ 256 ∧ ((lnC l).e = 0 ∨ (lnC l).e = 3 ∨ (lnC l).e = 17) ∧ (lnC l).t.length ≤ l.length := by
  rcases line_cases l with hn | ⟨k, hk, hkl, h256⟩
  · rw [line_short hn]
    split <;> simp
  · rw [line_at hk]; by_cases hs : Lib.hasSuffix (l.take (k + 1)) crlfC = true
    · rw [if_pos hs]; have := suffix_len hs; rw [List.length_take] at this; have h2 : crlfC.length = 2 := rfl; unfold Lib.trimSuffix; rw [if_pos hs]; simp; omega
    · rw [if_neg hs]; simp
theorem line_err {l : List UInt8} (h : (lnC l).e ≠ 0) : (lnC l).r = l ∧ (lnC l).t = [] := by
  rcases line_cases l with hn | ⟨k, hk, hkl, h256⟩
  · rw [line_short hn]
    split <;> simp
  · rw [line_at hk] at h ⊢; by_cases hs : Lib.hasSuffix (l.take (k + 1)) crlfC = true
    · rw [if_pos hs] at h; simp at h
    · rw [if_neg hs]; simp
theorem numV_range {t : List UInt8} {m : Int} (h : numE t m = 0) : 0 ≤ numV t m ∧ numV t m ≤ m := by
  unfold numE at h; have := unhex_range (numT t) m; by_cases h0 : unhexE (numT t) m = 0
  · exact this.1 h0
  · rcases (this.2 h0).2 with h1 | h1 <;> rw [h1] at h <;> split at h <;> simp at h
theorem parseE_cases (l : List UInt8) : parseE l = 0 ∨ parseE l = 3 := by unfold parseE; split <;> simp
theorem data_eq (c : Ck) (n : Nat) (hn : min c.left c.inp.length = n) : dataM c = if 0 < c.left - n then ({ c with inp := c.inp.drop n, dat := c.dat ++ c.inp.take n, left := c.left - n }, 17)
    else ({ c with inp := c.inp.drop n, dat := c.dat ++ c.inp.take n, left := c.left - n, st := 2 }, 0) := by subst hn; rfl
def Ck.ok (c : Ck) : Prop := c.left + c.dat.length ≤ c.most ∧ c.flds ≤ 16 ∧ c.st ≤ 4
def Ck.mu (c : Ck) : Nat := 2 * c.inp.length + (if c.st = 1 then 1 else 0)
theorem begin_ok {c : Ck} (h : c.ok) (_h0 : c.st = 0) : ((beginM c).2 = 0 → (beginM c).1.mu < c.mu) ∧ (beginM c).1.ok ∧ (beginM c).1.most = c.most ∧ (beginM c).1.err = c.err ∧ (beginM c).1.inp.length + (beginM c).1.dat.length ≤ c.inp.length + c.dat.length ∧ c.dat <+: (beginM c).1.dat := by
  obtain ⟨h1, h2, h3⟩ := h; have hl := line_le c.inp; unfold beginM
  split
  · exact ⟨fun hh => absurd hh (by assumption), ⟨h1, h2, h3⟩, rfl, rfl, Nat.le_refl _, List.prefix_refl _⟩
  · rename_i he; have he : (lnC c.inp).e = 0 := by simpa using he
    have hl2 := hl.2.1 he
    split
    · exact ⟨fun hh => absurd hh (by assumption), ⟨h1, h2, h3⟩, rfl, rfl, by simp only; omega, List.prefix_refl _⟩
    · rename_i hn; have hn : numE (lnC c.inp).t ((c.most : Int) - c.dat.length) = 0 := by simpa using hn
      have hv := numV_range hn; refine ⟨fun _ => ?_, ⟨?_, h2, ?_⟩, rfl, rfl, by simp only; omega, List.prefix_refl _⟩
      · unfold Ck.mu; simp only; split <;> split <;> omega
      · simp only; omega
      · simp only; split <;> omega
theorem trail_ok {c : Ck} (h : c.ok) (h0 : c.st = 3) : ((trailM c).2 = 0 → (trailM c).1.mu < c.mu) ∧ ((trailM c).2 = 0 ∨ (trailM c).2 = 17 → (trailM c).1.ok) ∧ (trailM c).1.most = c.most ∧ (trailM c).1.err = c.err ∧ (trailM c).1.inp.length + (trailM c).1.dat.length ≤ c.inp.length + c.dat.length ∧ c.dat <+: (trailM c).1.dat := by
  obtain ⟨h1, h2, h3⟩ := h; have hl := line_le c.inp; unfold trailM
  split
  · exact ⟨fun hh => absurd hh (by assumption), fun _ => ⟨h1, h2, h3⟩, rfl, rfl, Nat.le_refl _, List.prefix_refl _⟩
  · rename_i he; have he : (lnC c.inp).e = 0 := by simpa using he
    have hl2 := hl.2.1 he; have hmu : c.mu = 2 * c.inp.length := by unfold Ck.mu; rw [if_neg (by omega)]; omega
    split
    · exact ⟨fun _ => by rw [hmu]; unfold Ck.mu; simp; omega, fun _ => ⟨h1, h2, by simp only; omega⟩, rfl, rfl, by simp only; omega, List.prefix_refl _⟩
    · split
      · exact ⟨fun hh => absurd hh (by assumption), fun _ => ⟨h1, h2, h3⟩, rfl, rfl, by simp only; omega, List.prefix_refl _⟩
      · refine ⟨fun _ => by rw [hmu]; unfold Ck.mu; simp only; rw [if_neg (by omega)]; omega, fun hh => ⟨h1, ?_, h3⟩, rfl, rfl, by simp only; omega, List.prefix_refl _⟩; simp only at hh ⊢
        split at hh
        · rcases hh with hh | hh <;> simp at hh
        · omega
theorem close_ok {c : Ck} (h : c.ok) (h0 : c.st = 2) : ((closeM c).2 = 0 → (closeM c).1.mu < c.mu) ∧ (closeM c).1.ok ∧ (closeM c).1.most = c.most ∧ (closeM c).1.err = c.err ∧ (closeM c).1.inp.length + (closeM c).1.dat.length ≤ c.inp.length + c.dat.length ∧ c.dat <+: (closeM c).1.dat := by
  obtain ⟨h1, h2, h3⟩ := h; unfold closeM
  split
  · exact ⟨fun hh => by simp at hh, ⟨h1, h2, h3⟩, rfl, rfl, Nat.le_refl _, List.prefix_refl _⟩
  · split
    · exact ⟨fun hh => by simp at hh, ⟨h1, h2, h3⟩, rfl, rfl, Nat.le_refl _, List.prefix_refl _⟩
    · refine ⟨fun _ => ?_, ⟨h1, h2, by simp only; omega⟩, rfl, rfl, by simp only [List.length_drop]; omega, List.prefix_refl _⟩; unfold Ck.mu; simp only [List.length_drop]; rw [if_neg (by omega), if_neg (by omega)]; omega
theorem data_ok {c : Ck} (h : c.ok) (h0 : c.st = 1) : ((dataM c).2 = 0 → (dataM c).1.mu < c.mu) ∧ (dataM c).1.ok ∧ (dataM c).1.most = c.most ∧ (dataM c).1.err = c.err ∧ (dataM c).1.inp.length + (dataM c).1.dat.length ≤ c.inp.length + c.dat.length ∧ c.dat <+: (dataM c).1.dat := by
  obtain ⟨h1, h2, h3⟩ := h; unfold dataM
  split
  · refine ⟨fun hh => by simp at hh, ⟨?_, h2, h3⟩, rfl, rfl, ?_, List.prefix_append _ _⟩
    · simp only [List.length_append, List.length_take]; omega
    · simp only [List.length_append, List.length_take, List.length_drop]; omega
  · refine ⟨fun _ => ?_, ⟨?_, h2, by simp only; omega⟩, rfl, rfl, ?_, List.prefix_append _ _⟩
    · unfold Ck.mu; simp only [List.length_drop]; rw [if_neg (by omega), if_pos h0]; omega
    · simp only [List.length_append, List.length_take]; omega
    · simp only [List.length_append, List.length_take, List.length_drop]; omega
theorem step_ok {c : Ck} (h : c.ok) : ((stepM c).2 = 0 → (stepM c).1.mu < c.mu) ∧ ((stepM c).2 = 0 ∨ (stepM c).2 = 17 → (stepM c).1.ok) ∧ (stepM c).1.most = c.most ∧ (stepM c).1.err = c.err ∧ (stepM c).1.inp.length + (stepM c).1.dat.length ≤ c.inp.length + c.dat.length ∧ c.dat <+: (stepM c).1.dat := by
  unfold stepM
  split
  · have := begin_ok h (by assumption); exact ⟨this.1, fun _ => this.2.1, this.2.2⟩
  split
  · have := data_ok h (by assumption); exact ⟨this.1, fun _ => this.2.1, this.2.2⟩
  split
  · have := close_ok h (by assumption); exact ⟨this.1, fun _ => this.2.1, this.2.2⟩
  split
  · exact trail_ok h (by assumption)
  · exact ⟨fun hh => by simp at hh, fun _ => h, rfl, rfl, Nat.le_refl _, List.prefix_refl _⟩
inductive Runs : Ck → Ck → Int → Prop
  | stop {c : Ck} : (stepM c).2 ≠ 0 → Runs c (stepM c).1 (stepM c).2
  | more {c d : Ck} {e : Int} : (stepM c).2 = 0 → Runs (stepM c).1 d e → Runs c d e
theorem runs_ne {c d : Ck} {e : Int} (h : Runs c d e) : e ≠ 0 := by
  induction h with
  | stop h => exact h
  | more _ _ ih => exact ih
theorem runs_ok {c d : Ck} {e : Int} (h : Runs c d e) (hc : c.ok) : (e = 17 → d.ok) ∧ d.most = c.most ∧ d.err = c.err ∧ d.inp.length + d.dat.length ≤ c.inp.length + c.dat.length ∧ c.dat <+: d.dat := by
  induction h with
  | stop h => have := step_ok hc; exact ⟨fun h17 => this.2.1 (.inr h17), this.2.2⟩
  | more h _ ih =>
    have hs := step_ok hc; obtain ⟨i1, i2, i3, i4, i5⟩ := ih (hs.2.1 (.inl h)); exact ⟨i1, i2.trans hs.2.2.1, i3.trans hs.2.2.2.1, Nat.le_trans i4 hs.2.2.2.2.1, hs.2.2.2.2.2.trans i5⟩
end Go.Proofs.YtlhnjkekjbbhcaaGreatDoor
namespace Go.Proofs.YtlhnjkekjbbhcaaGreatDoor
open Go.RowKit Go.Shelf
theorem Blk.there' {w : World} {b : Nat} {T : TypeId} {xs : List Value} (h : Blk w b T xs) (o n : Nat) (hl : o + n ≤ xs.length) : w.there b o n := fun j hj =>
  ⟨by rw [h.cell, List.getElem?_eq_getElem (by omega)]; rfl, h.frozen _⟩
theorem Blk.range' {w : World} {b : Nat} {T : TypeId} {xs : List Value} (h : Blk w b T xs) : w.rangeAt b 0 xs := fun j v hv => by rw [Nat.zero_add]; exact h.get hv
theorem Keep.setCells' {S : List Nat} {a : World} (b : Nat) (hb : b < a.heap.size → b ∈ S) : ∀ (vs : List Value) (o : Nat) (w : World), Keep S a w → Keep S a (w.setCells b o vs)
  | [], _, _, h => h
  | v :: r, o, w, h => by
    rw [World.setCells]; exact Keep.setCells' b hb r (o + 1) _ (h.setCell _ _ hb)
def stampM (l : List UInt8) : List UInt8 := [115, 104, 97, 50, 53, 54, 58] ++ hexS l
theorem stampM_len (d : Dig) : (stampM d.1).length = 71 := by unfold stampM; rw [List.length_append, hexS_len, d.2]; rfl
theorem dig_back (w : World) (d : Dig) : (convert 143 9 (.slice (some ⟨w.heap.size, 0, none⟩) 32 32)).run Tryz.prog (w.alloc (.cells (digC d).toArray 23)) = .ok (.string (S d.1)) (w.alloc (.cells (digC d).toArray 23)) := by
  have hb := Blk.newA w (digC d).toArray 23
  have := run_convert_bytes_back (P := Tryz.prog) (w.alloc (.cells (digC d).toArray 23)) 143 9 5 ⟨w.heap.size, 0, none⟩ 32 d.1 Tryz.underlying143 Tryz.underlying5 Tryz.underlying9 (fun j hj => by
    have ha : (⟨w.heap.size, 0, none⟩ : Addr).add j = ⟨w.heap.size, j, none⟩ := by unfold Addr.add; split <;> simp_all
    rw [ha]; exact hb.get (k := j) (by simp [digC, hj]))
  rwa [d.2] at this
set_option maxRecDepth 100000 in
set_option maxHeartbeats 2000000 in
theorem stamp_Print (d : Dig) (w : World) :
    Calls Tryz.prog 83 #[.agg (digC d).toArray] w fun e w' => e = .returned (.string (S (stampM d.1))) ∧ Keep [] w w' := by
  have kA := (Keep.refl [] w).alloc (.cells (digC d).toArray 23); have hcv := dig_back w d; have hdl := digC_length d; have HH := Lib.hid (fun w' => hexa_Hex d.1 w' (by rw [d.2]; decide)); have hcat : (⟨#[115, 104, 97, 50, 53, 54, 58]⟩ : ByteArray) ++ S (hexS d.1) = S (stampM d.1) := S_append [115, 104, 97, 50, 53, 54, 58] _; have hhl : (hexS d.1).length = 64 := by rw [hexS_len, d.2]
  have s1 := S_size (hexS d.1); rw [hhl] at s1; generalize hexS d.1 = hx at *; generalize stampM d.1 = st at *; generalize hwA : w.alloc (.cells (digC d).toArray 23) = wA at kA hcv; have KA := Lib.hid kA; clear kA; go_enter Tryz.func83, Tryz.ntmps83; go_wp2_with fail; refine (HH.out _).mono ?_; rintro e w5 ⟨rfl, k5⟩; have K5 := Lib.hid (KA.out.trans k5); clear k5; go_wp2_with fail; go_ret; exact ⟨rfl, K5.out⟩
set_option maxRecDepth 100000 in
set_option maxHeartbeats 2000000 in
theorem ref04_hex (d : Dig) (w : World) :
    Calls Tryz.prog 87 #[.agg (digC d).toArray] w fun e w' => e = .returned (.string (S (hexS d.1))) ∧ Keep [] w w' := by
  have kA := (Keep.refl [] w).alloc (.cells (digC d).toArray 23); have hcv := dig_back w d; have hdl := digC_length d; have HH := Lib.hid (fun w' => ref01_Hex d.1 w' (by rw [d.2]; decide)); generalize hexS d.1 = hx at *; generalize hwA : w.alloc (.cells (digC d).toArray 23) = wA at kA hcv; have KA := Lib.hid kA; clear kA; go_enter Tryz.func87, Tryz.ntmps87; go_wp2_with fail; refine (HH.out _).mono ?_; rintro e w5 ⟨rfl, k5⟩; have K5 := Lib.hid (KA.out.trans k5); clear k5; go_wp2_with fail; go_ret; exact ⟨rfl, K5.out⟩
theorem dig_size (d : Dig) : (Tryz.prog.info? 23).map (·.size) = some (digC d).length := by rw [digC_length]; kernel_rfl
set_option maxRecDepth 100000 in
theorem ref04_Print (d : Dig) (w : World) :
    Calls Tryz.prog 49 #[.agg (digC d).toArray] w fun e w' => e = .returned (.string (S (stampM d.1))) ∧ Keep [] w w' := by
  have HH := Lib.hid (fun w' => ref04_hex d w'); have hcat : (⟨#[115, 104, 97, 50, 53, 54, 58]⟩ : ByteArray) ++ S (hexS d.1) = S (stampM d.1) := S_append [115, 104, 97, 50, 53, 54, 58] _; have hhl : (hexS d.1).length = 64 := by rw [hexS_len, d.2]
  have s1 := S_size (hexS d.1); rw [hhl] at s1; generalize hexS d.1 = hx at *; generalize stampM d.1 = st at *; have HDS := Lib.hid (dig_size d); have kA := (Keep.refl [] w).alloc (.cells (digC d).toArray 23); have bA := Blk.newA w (digC d).toArray 23; generalize hwA : w.alloc (.cells (digC d).toArray 23) = wA at kA bA; have KA := Lib.hid kA; have bA : Blk wA w.heap.size 23 (digC d) := bA; have RNG := Lib.hid bA.range'; clear kA bA; go_enter Tryz.func49, Tryz.ntmps49
  go_wp2_with (first | ((with_reducible refine gM 1 ?_); refine wpList_load_mid rfl 23 (.tmp 1) rfl w.heap.size 0 (by rfl) (digC d) _ RNG.out Tryz.underlying23 rfl HDS.out ?_; try simp only [Act.put, sqA, sqB, sqC]) | fail); refine (HH.out _).mono ?_; rintro e w5 ⟨rfl, k5⟩; have K5 := Lib.hid (KA.out.trans k5); clear k5; go_wp2_with fail; go_ret; exact ⟨rfl, K5.out⟩
def zeroD : Dig := ⟨List.replicate 32 0, by simp⟩
def pfxD : List UInt8 := [115, 104, 97, 50, 53, 54, 58]
def digO (l : List UInt8) : Option Dig := if h : l.length = 32 then some ⟨l, h⟩ else none
def behindO (s : List UInt8) : Option Dig := if Lib.hasPrefix s pfxD then (unhexM (s.drop 7)).bind digO else none
def digOut (o : Option Dig) : Ending := .returned (.tuple #[.agg (digC (o.getD zeroD)).toArray, .bool o.isSome])
theorem dig_one (d : Dig) : ∀ v ∈ digC d, v.oneCell' = true := by
  intro v hv; simp only [digC, List.mem_map] at hv; obtain ⟨b, _, rfl⟩ := hv; rfl
theorem dig_st (d : Dig) : (Tryz.prog.info? 23).map (·.size) = some (digC d).toArray.size ∧ (digC d).toArray.all (·.oneCell') = true := ⟨by rw [List.size_toArray]; exact dig_size d, all_oneCell_toArray (dig_one d)⟩
theorem dig_load {w : World} {b : Nat} {d : Dig} (h : w.rangeAt b 0 (digC d)) : (loadVar 23 ⟨b, 0, none⟩).run Tryz.prog w = .ok (.agg (digC d).toArray) w :=
  run_loadVar_mid (P := Tryz.prog) w b 0 23 (digC d) _ h Tryz.underlying23 rfl (dig_size d)
theorem digC_zero : digC zeroD = [.int .u8 0, .int .u8 0, .int .u8 0, .int .u8 0, .int .u8 0, .int .u8 0, .int .u8 0, .int .u8 0, .int .u8 0, .int .u8 0, .int .u8 0, .int .u8 0, .int .u8 0, .int .u8 0, .int .u8 0, .int .u8 0, .int .u8 0, .int .u8 0, .int .u8 0, .int .u8 0, .int .u8 0, .int .u8 0, .int .u8 0, .int .u8 0, .int .u8 0, .int .u8 0, .int .u8 0, .int .u8 0, .int .u8 0, .int .u8 0, .int .u8 0, .int .u8 0] := rfl
set_option maxRecDepth 100000 in
set_option maxHeartbeats 2000000 in
theorem stamp_behind (s : List UInt8) (w : World) (hs : s.length ≤ 1048576) :
    Calls Tryz.prog 170 #[.string (S s), .string ⟨#[115, 104, 97, 50, 53, 54, 58]⟩] w fun e w' => e = digOut (behindO s) ∧ Keep [] w w' := by
  have hBO : behindO s = if Lib.hasPrefix s pfxD then (unhexM (s.drop 7)).bind digO else none := rfl
  have HBO := Lib.hid hBO; have kA := (Keep.refl [] w).alloc (.cells (digC zeroD).toArray 23); have bA := Blk.newA w (digC zeroD).toArray 23; have szA : w.heap.size < (w.alloc (.cells (digC zeroD).toArray 23)).heap.size := by simp
  have hcp : ∀ w', Calls Tryz.prog 74 #[.string (S s), .string ⟨#[115, 104, 97, 50, 53, 54, 58]⟩] w' fun e w1 => e = .returned (.tuple #[.string (S (Lib.trimPrefix s pfxD)), .bool (Lib.hasPrefix s pfxD)]) ∧ w1 = w' := fun w' => by
    have := Tryz.strings_CutPrefix (S s) ⟨#[115, 104, 97, 50, 53, 54, 58]⟩ w'; rw [S_list] at this; exact this
  clear hBO; rw [digC_zero] at kA bA szA; generalize hwA : w.alloc (.cells [.int .u8 0, .int .u8 0, .int .u8 0, .int .u8 0, .int .u8 0, .int .u8 0, .int .u8 0, .int .u8 0, .int .u8 0, .int .u8 0, .int .u8 0, .int .u8 0, .int .u8 0, .int .u8 0, .int .u8 0, .int .u8 0, .int .u8 0, .int .u8 0, .int .u8 0, .int .u8 0, .int .u8 0, .int .u8 0, .int .u8 0, .int .u8 0, .int .u8 0, .int .u8 0, .int .u8 0, .int .u8 0, .int .u8 0, .int .u8 0, .int .u8 0, .int .u8 0].toArray 23) = wA at kA bA szA; have bA : Blk wA w.heap.size 23 (digC zeroD) := bA; have KA := Lib.hid kA; have BA := Lib.hid bA; have SZ := Lib.hid szA; have HS0 := Lib.hid (dig_st zeroD); have HDS := Lib.hid (dig_size zeroD); have HLZ := Lib.hid (fun w' b (h : w'.there b 0 32) => dig_load (World.rangeAt_setCells_same w' b 0 (digC zeroD) (by rw [digC_length]; exact h))); have KZ := Lib.hid (show Keep [] w (wA.setCells w.heap.size 0 (digC zeroD)) from Keep.setCells' _ (fun hh => absurd hh (by omega)) _ _ _ KA.out); clear kA bA szA; have hwA2 : w.alloc (.cells #[.int .u8 0, .int .u8 0, .int .u8 0, .int .u8 0, .int .u8 0, .int .u8 0, .int .u8 0, .int .u8 0, .int .u8 0, .int .u8 0, .int .u8 0, .int .u8 0, .int .u8 0, .int .u8 0, .int .u8 0, .int .u8 0, .int .u8 0, .int .u8 0, .int .u8 0, .int .u8 0, .int .u8 0, .int .u8 0, .int .u8 0, .int .u8 0, .int .u8 0, .int .u8 0, .int .u8 0, .int .u8 0, .int .u8 0, .int .u8 0, .int .u8 0, .int .u8 0] 23) = wA := hwA; clear hwA
  cases hp : Lib.hasPrefix s pfxD with
  | false =>
    have htp : Lib.trimPrefix s pfxD = s := by unfold Lib.trimPrefix; rw [hp]; rfl
    have HR := Lib.hid (show behindO s = none by rw [HBO.out, hp]; rfl); rw [htp, hp] at hcp; have HCP := Lib.hid hcp; clear hp htp hcp HBO; go_enter Tryz.func170, Tryz.ntmps170
    go_wp2_with (first | (go_at_call 74; refine (HCP.out _).mono ?_; rintro e w1 ⟨rfl, h1⟩; have h1 := h1.symm; subst h1) | ((with_reducible refine gM 4 ?_); refine wpList_load_mid rfl 23 (.tmp 4) rfl w.heap.size 0 (by rfl) (digC zeroD) _ BA.out.range' Tryz.underlying23 rfl HDS.out ?_; try simp only [Act.put, sqA, sqB, sqC]) | ((with_reducible refine gS 4 18 ?_); refine wpList_store_mid rfl 23 (.tmp 4) (.tmp 18) rfl w.heap.size 0 (digC zeroD).toArray (by rfl) (by first | rfl | kernel_rfl) (BA.out.there' 0 32 (by rw [digC_length]; exact Nat.le_refl _)) HS0.out.1 HS0.out.2 ?_; try simp only [Act.put]) | fail); have hload := HLZ.out wA w.heap.size (BA.out.there' 0 32 (by rw [digC_length]; exact Nat.le_refl _)); rw [HR.out]; refine bodyPost_ret (v := .tuple #[.agg (digC zeroD).toArray, .bool false]) (by simp [results, Tryz.results170, asAddr, Result.andThen, hload]) rfl ⟨rfl, KZ.out⟩
  | true =>
    have htp : Lib.trimPrefix s pfxD = s.drop 7 := by unfold Lib.trimPrefix; rw [hp]; rfl
    have HR0 := Lib.hid (show behindO s = (unhexM (s.drop 7)).bind digO by rw [HBO.out, hp]; rfl); rw [htp, hp] at hcp; have HCP := Lib.hid hcp; clear hp htp hcp HBO; have hdl : (s.drop 7).length ≤ 1048576 := by rw [List.length_drop]; omega
    generalize s.drop 7 = r at *; have HU0 := fun w' => hexa_Unhex r w' hdl
    cases hu : unhexM r with
    | none =>
      have HR := Lib.hid (show behindO s = none by rw [HR0.out, hu]; rfl); have HU := Lib.hid (fun w' => show Calls Tryz.prog 206 #[.string (S r)] w' fun e w1 => e = .returned (.tuple #[.string (S []), .int .i64 3]) ∧ Keep [] w' w1 by have := HU0 w'; rw [hu] at this; exact this); clear hu HU0 HR0; go_enter Tryz.func170, Tryz.ntmps170
      go_wp2_with (first | (go_at_call 74; refine (HCP.out _).mono ?_; rintro e w1 ⟨rfl, h1⟩; have h1 := h1.symm; subst h1) | fail); refine (HU.out _).mono ?_; rintro e w2 ⟨rfl, k2⟩; have K2 := Lib.hid (KA.out.trans k2); have BA2 := Lib.hid (k2.blk BA.out (by simp)); have KZ2 := Lib.hid (show Keep [] w (w2.setCells w.heap.size 0 (digC zeroD)) from Keep.setCells' _ (fun hh => absurd hh (by omega)) _ _ _ K2.out); clear k2 hwA2
      go_wp2_with (first | ((with_reducible refine gM 4 ?_); refine wpList_load_mid rfl 23 (.tmp 4) rfl w.heap.size 0 (by rfl) (digC zeroD) _ BA2.out.range' Tryz.underlying23 rfl HDS.out ?_; try simp only [Act.put, sqA, sqB, sqC]) | ((with_reducible refine gS 4 31 ?_); refine wpList_store_mid rfl 23 (.tmp 4) (.tmp 31) rfl w.heap.size 0 (digC zeroD).toArray (by rfl) (by first | rfl | kernel_rfl) (BA2.out.there' 0 32 (by rw [digC_length]; exact Nat.le_refl _)) HS0.out.1 HS0.out.2 ?_; try simp only [Act.put]) | fail); have hload := HLZ.out w2 w.heap.size (BA2.out.there' 0 32 (by rw [digC_length]; exact Nat.le_refl _)); rw [HR.out]; refine bodyPost_ret (v := .tuple #[.agg (digC zeroD).toArray, .bool false]) (by simp [results, Tryz.results170, asAddr, Result.andThen, hload]) rfl ⟨rfl, KZ2.out⟩
    | some o =>
      have HU := Lib.hid (fun w' => show Calls Tryz.prog 206 #[.string (S r)] w' fun e w1 => e = .returned (.tuple #[.string (S o), .int .i64 0]) ∧ Keep [] w' w1 by have := HU0 w'; rw [hu] at this; exact this); have sO := S_size o; by_cases hl : o.length = 32
      · obtain ⟨d, rfl⟩ : ∃ d : Dig, o = d.1 := ⟨⟨o, hl⟩, rfl⟩
        have HR := Lib.hid (show behindO s = some d by rw [HR0.out, hu]; show digO d.1 = _; unfold digO; rw [dif_pos d.2]); have sO : (S d.1).size = 32 := by rw [sO, d.2]
        clear hu HU0 HR0 hl; go_enter Tryz.func170, Tryz.ntmps170
        go_wp2_with (first | (go_at_call 74; refine (HCP.out _).mono ?_; rintro e w1 ⟨rfl, h1⟩; have h1 := h1.symm; subst h1) | fail); refine (HU.out _).mono ?_; rintro e w2 ⟨rfl, k2⟩; have K2 := Lib.hid (KA.out.trans k2); have BA2 := Lib.hid (k2.blk BA.out (by simp)); clear k2 hwA2
        have hrow : (List.take 0 (digC zeroD).toArray.toList ++ Lib.byteCells (S d.1).data.toList ++ List.drop (0 + (S d.1).size) (digC zeroD).toArray.toList).toArray = (digC d).toArray := by
          rw [sO, S_list, List.take_zero, List.nil_append, List.drop_of_length_le (by simp [digC_length]), List.append_nil]; rfl
        have hcpy := Lib.run_copy_row_string (P := Tryz.prog) w2 143 9 3 5 w.heap.size 0 32 32 (S d.1) (digC zeroD).toArray 23 Tryz.underlying143 (by kernel_rfl) BA2.out (by rw [sO]; exact Nat.le_refl _) (by rw [sO]; simp [digC_length]); rw [hrow] at hcpy; have hbrow : Blk (w2.setRow w.heap.size (digC d).toArray) w.heap.size 23 (digC d) := setRow_heap w2 w.heap.size _ _ _ _ BA2.out; have krow : Keep [] w (w2.setRow w.heap.size (digC d).toArray) := K2.out.trans' (show Keep [w.heap.size] w2 _ from ⟨rfl, rfl, rfl, by simp, fun k hk hn => setRow_other w2 w.heap.size k _ (fun h => hn (by simp [h]))⟩) (fun x hx hlt => by have h1 : x = w.heap.size := (by simpa using hx); omega); generalize hw3 : w2.setRow w.heap.size (digC d).toArray = w3 at *; have KZ2 := Lib.hid (show Keep [] w (w3.setCells w.heap.size 0 (digC d)) from Keep.setCells' _ (fun hh => absurd hh (by omega)) _ _ _ krow); have B3 := Lib.hid hbrow; have HSd := Lib.hid (dig_st d); have hload := Lib.hid (dig_load (World.rangeAt_setCells_same w3 w.heap.size 0 (digC d) (by rw [digC_length]; exact B3.out.there' 0 32 (by rw [digC_length]; exact Nat.le_refl _)))); have q1 := (int_eq (show (d.1.length : Int) = 32 by rw [d.2]; rfl)).2; clear hrow hbrow krow hw3
        go_wp2_with (first | ((with_reducible refine gM 4 ?_); refine wpList_load_mid rfl 23 (.tmp 4) rfl w.heap.size 0 (by rfl) (digC d) _ B3.out.range' Tryz.underlying23 rfl (dig_size _) ?_; try simp only [Act.put, sqA, sqB, sqC]) | ((with_reducible refine gS 4 35 ?_); refine wpList_store_mid rfl 23 (.tmp 4) (.tmp 35) rfl w.heap.size 0 (digC d).toArray (by rfl) (by first | rfl | kernel_rfl) (B3.out.there' 0 _ (by simp)) HSd.out.1 HSd.out.2 ?_; try simp only [Act.put]) | fail); rw [HR.out]; refine bodyPost_ret (v := .tuple #[.agg (digC d).toArray, .bool true]) (by simp [results, Tryz.results170, asAddr, Result.andThen, hload.out]) rfl ⟨rfl, KZ2.out⟩
      · have HR := Lib.hid (show behindO s = none by rw [HR0.out, hu]; show digO o = _; unfold digO; rw [dif_neg hl]); have q1 := (int_ne (show (o.length : Int) ≠ 32 by omega)).2; clear hu HU0 HR0 hl; go_enter Tryz.func170, Tryz.ntmps170
        go_wp2_with (first | (go_at_call 74; refine (HCP.out _).mono ?_; rintro e w1 ⟨rfl, h1⟩; have h1 := h1.symm; subst h1) | fail); refine (HU.out _).mono ?_; rintro e w2 ⟨rfl, k2⟩; have K2 := Lib.hid (KA.out.trans k2); have BA2 := Lib.hid (k2.blk BA.out (by simp)); have KZ2 := Lib.hid (show Keep [] w (w2.setCells w.heap.size 0 (digC zeroD)) from Keep.setCells' _ (fun hh => absurd hh (by omega)) _ _ _ K2.out); clear k2 hwA2
        go_wp2_with (first | ((with_reducible refine gM 4 ?_); refine wpList_load_mid rfl 23 (.tmp 4) rfl w.heap.size 0 (by rfl) (digC zeroD) _ BA2.out.range' Tryz.underlying23 rfl HDS.out ?_; try simp only [Act.put, sqA, sqB, sqC]) | ((with_reducible refine gS 4 31 ?_); refine wpList_store_mid rfl 23 (.tmp 4) (.tmp 31) rfl w.heap.size 0 (digC zeroD).toArray (by rfl) (by first | rfl | kernel_rfl) (BA2.out.there' 0 32 (by rw [digC_length]; exact Nat.le_refl _)) HS0.out.1 HS0.out.2 ?_; try simp only [Act.put]) | fail); have hload := HLZ.out w2 w.heap.size (BA2.out.there' 0 32 (by rw [digC_length]; exact Nat.le_refl _)); rw [HR.out]; refine bodyPost_ret (v := .tuple #[.agg (digC zeroD).toArray, .bool false]) (by simp [results, Tryz.results170, asAddr, Result.andThen, hload]) rfl ⟨rfl, KZ2.out⟩
theorem pfx_take {s : List UInt8} : Lib.hasPrefix s pfxD = true ↔ s.take 7 = pfxD := by
  unfold Lib.hasPrefix; rw [List.isPrefixOf_iff_prefix, List.prefix_iff_eq_take]; exact eq_comm
theorem digO_len {o : List UInt8} (h : o.length ≠ 32) : digO o = none := by unfold digO; rw [dif_neg h]
theorem digO_dig (d : Dig) : digO d.1 = some d := by unfold digO; rw [dif_pos d.2]
theorem behind_not71 {s : List UInt8} (h : s.length ≠ 71) : behindO s = none := by
  unfold behindO
  split
  · rename_i hp; have ht := pfx_take.1 hp; have h7 : 7 ≤ s.length := by have := congrArg List.length ht; rw [List.length_take] at this; have h8 : pfxD.length = 7 := rfl; omega
    cases hu : unhexM (s.drop 7) with
    | none => rfl
    | some o =>
      have hl := unhex_len _ _ hu; rw [List.length_drop] at hl; exact digO_len (by omega)
  · rfl
theorem behind_71 {s : List UInt8} (h : s.length = 71) (ht : s.take 7 = pfxD) : behindO s = (match unhexM (s.drop 7) with | none => none | some o => digO o) ∧ ∀ o, unhexM (s.drop 7) = some o → o.length = 32 := by
  refine ⟨?_, fun o hu => ?_⟩
  · unfold behindO; rw [if_pos (pfx_take.2 ht)]; cases unhexM (s.drop 7) <;> rfl
  · have hl := unhex_len _ _ hu; rw [List.length_drop] at hl; omega
theorem behind_other {s : List UInt8} (ht : s.take 7 ≠ pfxD) : behindO s = none := by
  unfold behindO; rw [if_neg (fun h => ht (pfx_take.1 h))]
theorem blk_over {b : Nat} {T : TypeId} : ∀ (vs : List Value) {w : World} {pre xs : List Value}, xs.length = vs.length → Blk w b T (pre ++ xs) → Blk (w.setCells b pre.length vs) b T (pre ++ vs)
  | [], w, pre, xs, hl, h => by
    have : xs = [] := List.length_eq_zero_iff.1 (by simpa using hl); subst this; exact h
  | v :: r, w, pre, x :: xs, hl, h => by
    have h1 := h.set pre.length v; rw [List.set_append_right _ _ (Nat.le_refl _), Nat.sub_self, sqC] at h1; have h2 := blk_over r (pre := pre ++ [v]) (xs := xs) (by simpa using hl) (by simpa using h1); simpa [World.setCells] using h2
theorem blk_over0 {b : Nat} {T : TypeId} {w : World} {xs vs : List Value} (h : Blk w b T xs) (hl : xs.length = vs.length) : Blk (w.setCells b 0 vs) b T vs := blk_over vs (pre := []) hl h
theorem blk_setCells_other {b c : Nat} {T : TypeId} (hne : b ≠ c) : ∀ (vs : List Value) (o : Nat) {w : World} {xs : List Value}, Blk w b T xs → Blk (w.setCells c o vs) b T xs
  | [], _, _, _, h => h
  | v :: r, o, _, _, h => blk_setCells_other hne r (o + 1) (h.setOther (by exact hne) v)
def fillC (d : Dig) (k : Nat) : List Value := (digC d).take k ++ (digC zeroD).drop k
theorem fillC_len (d : Dig) {k : Nat} (hk : k ≤ 32) : (fillC d k).length = 32 := by unfold fillC; rw [List.length_append, List.length_take, List.length_drop, digC_length, digC_length]; omega
theorem fillC_zero (d : Dig) : fillC d 0 = digC zeroD := by unfold fillC; simp
theorem fillC_all (d : Dig) : fillC d 32 = digC d := by unfold fillC; rw [List.take_of_length_le (by rw [digC_length]; exact Nat.le_refl _), List.drop_of_length_le (by rw [digC_length]; exact Nat.le_refl _), List.append_nil]
theorem fillC_set (d : Dig) {k : Nat} {b : UInt8} (hk : k < 32) (hb : d.1[k]? = some b) : (fillC d k).set k (.int .u8 (b.toNat : Nat)) = fillC d (k + 1) := by
  have hb2 : (digC d)[k]? = some (.int .u8 (b.toNat : Nat)) := by simp [digC, hb]
  refine List.ext_getElem? fun j => ?_
  unfold fillC; rw [List.getElem?_set, List.getElem?_append, List.getElem?_append]; simp only [List.length_append, List.length_take, List.length_drop, digC_length, List.getElem?_take, List.getElem?_drop]; rcases Nat.lt_trichotomy j k with h | h | h
  · rw [if_neg (by omega), if_pos (by omega), if_pos h, if_pos (by omega), if_pos (by omega)]
  · subst h; rw [if_pos rfl, if_pos (by omega), if_pos (by omega), if_pos (by omega), hb2]
  · rw [if_neg (by omega), if_neg (by omega), if_neg (by omega)]; congr 1; omega
set_option maxRecDepth 100000 in
set_option maxHeartbeats 2000000 in
theorem ref04_Behind (s : List UInt8) (w : World) (_hs : s.length ≤ 1048576) :
    Calls Tryz.prog 53 #[.string ⟨#[115, 104, 97, 50, 53, 54, 58]⟩, .string (S s)] w fun e w' => e = digOut (behindO s) ∧ Keep [] w w' := by
  have sS := S_size s; have kA := ((Keep.refl [] w).alloc (.cells (digC zeroD).toArray 23)).alloc (.cells (digC zeroD).toArray 23); have bA := (Blk.newA w (digC zeroD).toArray 23).alloc (.cells (digC zeroD).toArray 23); have bD := Blk.newA (w.alloc (.cells (digC zeroD).toArray 23)) (digC zeroD).toArray 23; rw [World.size_alloc] at bD; rw [digC_zero] at kA bA bD; generalize hwA : (w.alloc (.cells [.int .u8 0, .int .u8 0, .int .u8 0, .int .u8 0, .int .u8 0, .int .u8 0, .int .u8 0, .int .u8 0, .int .u8 0, .int .u8 0, .int .u8 0, .int .u8 0, .int .u8 0, .int .u8 0, .int .u8 0, .int .u8 0, .int .u8 0, .int .u8 0, .int .u8 0, .int .u8 0, .int .u8 0, .int .u8 0, .int .u8 0, .int .u8 0, .int .u8 0, .int .u8 0, .int .u8 0, .int .u8 0, .int .u8 0, .int .u8 0, .int .u8 0, .int .u8 0].toArray 23)).alloc (.cells [.int .u8 0, .int .u8 0, .int .u8 0, .int .u8 0, .int .u8 0, .int .u8 0, .int .u8 0, .int .u8 0, .int .u8 0, .int .u8 0, .int .u8 0, .int .u8 0, .int .u8 0, .int .u8 0, .int .u8 0, .int .u8 0, .int .u8 0, .int .u8 0, .int .u8 0, .int .u8 0, .int .u8 0, .int .u8 0, .int .u8 0, .int .u8 0, .int .u8 0, .int .u8 0, .int .u8 0, .int .u8 0, .int .u8 0, .int .u8 0, .int .u8 0, .int .u8 0].toArray 23) = wA at kA bA bD; have bA : Blk wA w.heap.size 23 (digC zeroD) := bA; have bD : Blk wA (w.heap.size + 1) 23 (digC zeroD) := bD; have KA := Lib.hid kA; have BA := Lib.hid bA; have BD := Lib.hid bD; have hwA2 : (w.alloc (.cells #[.int .u8 0, .int .u8 0, .int .u8 0, .int .u8 0, .int .u8 0, .int .u8 0, .int .u8 0, .int .u8 0, .int .u8 0, .int .u8 0, .int .u8 0, .int .u8 0, .int .u8 0, .int .u8 0, .int .u8 0, .int .u8 0, .int .u8 0, .int .u8 0, .int .u8 0, .int .u8 0, .int .u8 0, .int .u8 0, .int .u8 0, .int .u8 0, .int .u8 0, .int .u8 0, .int .u8 0, .int .u8 0, .int .u8 0, .int .u8 0, .int .u8 0, .int .u8 0] 23)).alloc (.cells #[.int .u8 0, .int .u8 0, .int .u8 0, .int .u8 0, .int .u8 0, .int .u8 0, .int .u8 0, .int .u8 0, .int .u8 0, .int .u8 0, .int .u8 0, .int .u8 0, .int .u8 0, .int .u8 0, .int .u8 0, .int .u8 0, .int .u8 0, .int .u8 0, .int .u8 0, .int .u8 0, .int .u8 0, .int .u8 0, .int .u8 0, .int .u8 0, .int .u8 0, .int .u8 0, .int .u8 0, .int .u8 0, .int .u8 0, .int .u8 0, .int .u8 0, .int .u8 0] 23) = wA := hwA; clear kA bA bD hwA; have x1 : (S s).extract 0 7 = S (s.take 7) := by rw [S_extract]; simp
  have tl := S_toList (s.take 7); have kB : Keep [] w (wA.setCells (w.heap.size + 1) 0 (digC zeroD)) := Keep.setCells' _ (fun hh => absurd hh (by omega)) _ _ _ KA.out; have bA2 : Blk (wA.setCells (w.heap.size + 1) 0 (digC zeroD)) w.heap.size 23 (digC zeroD) := blk_setCells_other (by omega) _ _ BA.out; have bD2 : Blk (wA.setCells (w.heap.size + 1) 0 (digC zeroD)) (w.heap.size + 1) 23 (digC zeroD) := blk_over0 BD.out rfl; generalize hwB : wA.setCells (w.heap.size + 1) 0 (digC zeroD) = wB at kB bA2 bD2; have HWB := Lib.hid hwB; have KB := Lib.hid kB; have BA2 := Lib.hid bA2; have BD2 := Lib.hid bD2; have HSz := Lib.hid (dig_st zeroD); have HDZ := Lib.hid (dig_size zeroD)
  have HEnd := Lib.hid (fun (d : Dig) (w' : World) (k : Keep [] w w') (b : Blk w' w.heap.size 23 (digC zeroD)) =>
    And.intro (dig_load (World.rangeAt_setCells_same w' w.heap.size 0 (digC d) (by rw [digC_length]; exact b.there' 0 32 (by rw [digC_length]; exact Nat.le_refl _))))
      (show Keep [] w (w'.setCells w.heap.size 0 (digC d)) from Keep.setCells' _ (fun hh => absurd hh (by omega)) _ _ _ k))
  clear kB bA2 bD2 hwB; by_cases h71 : s.length = 71
  · have q1 := (int_eq (show (s.length : Int) = 71 by omega)).2; by_cases ht : s.take 7 = pfxD
    · obtain ⟨hb1, hb2⟩ := behind_71 h71 ht; have HB1 := Lib.hid hb1; have HB2 := Lib.hid hb2; have q2 : (s.take 7 == [115, 104, 97, 50, 53, 54, 58]) = true := by rw [show s.take 7 = pfxD from ht]; rfl
      have x2 : (S s).extract 7 s.length = S (s.drop 7) := by rw [S_extract, List.take_length]
      have hdl : (s.drop 7).length ≤ 1048576 := by rw [List.length_drop]; omega
      have l7 : (7 : Int) ≤ (s.length : Int) := by omega
      have HLN := Lib.hid h71; clear h71 ht hb1 hb2; generalize s.drop 7 = r at *; have HU0 := fun w' => ref01_Unhex r w' hdl
      cases hu : unhexM r with
      | none =>
        have HR := Lib.hid (show behindO s = none by rw [HB1.out, hu]); have HU := Lib.hid (fun w' => show Calls Tryz.prog 93 #[.string (S r)] w' fun e w1 => e = .returned (.tuple #[.string (S []), .int .i64 3]) ∧ Keep [] w' w1 by have := HU0 w'; rw [hu] at this; exact this); clear hu HU0 HB1 HB2; go_enter Tryz.func53, Tryz.ntmps53
        go_wp2_with (first | ((with_reducible refine gS 6 10 ?_); refine wpList_store_mid rfl 23 (.tmp 6) (.tmp 10) rfl (w.heap.size + 1) 0 (digC zeroD).toArray (by rfl) (by first | rfl | kernel_rfl) (BD.out.there' 0 _ (by simp [digC_length])) HSz.out.1 HSz.out.2 ?_; rw [HWB.out]; try simp only [Act.put]) | fail); refine (HU.out _).mono ?_; rintro e w2 ⟨rfl, k2⟩; have K2 := Lib.hid (KB.out.trans k2); have B2 := Lib.hid (k2.blk BA2.out (by simp)); have D2 := Lib.hid (k2.blk BD2.out (by simp)); clear k2
        go_wp2_with (first | ((with_reducible refine gS 6 10 ?_); refine wpList_store_mid rfl 23 (.tmp 6) (.tmp 10) rfl (w.heap.size + 1) 0 (digC zeroD).toArray (by rfl) (by first | rfl | kernel_rfl) (BD.out.there' 0 _ (by simp [digC_length])) HSz.out.1 HSz.out.2 ?_; rw [HWB.out]; try simp only [Act.put]) | ((with_reducible refine gM 6 ?_); refine wpList_load_mid rfl 23 (.tmp 6) rfl (w.heap.size + 1) 0 (by rfl) (digC zeroD) _ D2.out.range' Tryz.underlying23 rfl HDZ.out ?_; try simp only [Act.put, sqA, sqB, sqC]) | ((with_reducible refine gS 4 36 ?_); refine wpList_store_mid rfl 23 (.tmp 4) (.tmp 36) rfl w.heap.size 0 (digC zeroD).toArray (by rfl) (by first | rfl | kernel_rfl) (B2.out.there' 0 _ (by simp [digC_length])) HSz.out.1 HSz.out.2 ?_; try simp only [Act.put]) | fail); have hload := HEnd.out zeroD w2 K2.out B2.out; rw [HR.out]; refine bodyPost_ret (v := .tuple #[.agg (digC zeroD).toArray, .bool false]) (by simp [results, Tryz.results53, asAddr, Result.andThen, hload.1]) rfl ⟨rfl, hload.2⟩
      | some o =>
        obtain ⟨d, rfl⟩ : ∃ d : Dig, o = d.1 := ⟨⟨o, HB2.out o hu⟩, rfl⟩
        have HR := Lib.hid (show behindO s = some d by rw [HB1.out, hu]; exact digO_dig d); have HU := Lib.hid (fun w' => show Calls Tryz.prog 93 #[.string (S r)] w' fun e w1 => e = .returned (.tuple #[.string (S d.1), .int .i64 0]) ∧ Keep [] w' w1 by have := HU0 w'; rw [hu] at this; exact this); clear hu HU0 HB1 HB2; go_enter Tryz.func53, Tryz.ntmps53
        go_wp2_with (first | ((with_reducible refine gS 6 10 ?_); refine wpList_store_mid rfl 23 (.tmp 6) (.tmp 10) rfl (w.heap.size + 1) 0 (digC zeroD).toArray (by rfl) (by first | rfl | kernel_rfl) (BD.out.there' 0 _ (by simp [digC_length])) HSz.out.1 HSz.out.2 ?_; rw [HWB.out]; try simp only [Act.put]) | fail); refine (HU.out _).mono ?_; rintro e w2 ⟨rfl, k2⟩; have K2 := Lib.hid (KB.out.trans k2); have B2 := Lib.hid (k2.blk BA2.out (by simp)); have D2 := Lib.hid (k2.blk BD2.out (by simp)); clear k2; go_wp2_with fail
        go_loopg [9] 32 (fun g iv wr => ∃ k : Nat, iv = .int .i64 (k : Nat) ∧ k ≤ 32 ∧ g = 32 - k ∧ Hid (Blk wr (w.heap.size + 1) 23 (fillC d k)) ∧ Hid (Blk wr w.heap.size 23 (digC zeroD)) ∧ Hid (Keep [] w wr))
        case atStart => exact ⟨0, rfl, by omega, rfl, Lib.hid (by rw [fillC_zero]; exact D2.out), B2, K2⟩
        case round =>
          obtain ⟨k, rfl, hk, hg, HD, HB, HK⟩ := hrel; by_cases hlt : k < 32
          · obtain ⟨b, hb⟩ : ∃ b, d.1[k]? = some b := ⟨_, List.getElem?_eq_getElem (by rw [d.2]; exact hlt)⟩
            have hget := S_get hb; have b8 := u8_nat b; have klt : (k : Int) < 32 := by omega
            have wk := IntWalk.i64_in ((k : Int) + 1) (by omega); obtain ⟨v0, hv0⟩ : ∃ v, (fillC d k)[k]? = some v := ⟨_, List.getElem?_eq_getElem (by rw [fillC_len d hk]; exact hlt)⟩
            have c0 := HD.out.get hv0; have f0 := HD.out.frozen k; have HX := Lib.hid hb; have szk : k < (S d.1).size := by rw [S_size, d.2]; exact hlt
            clear hb hv0; go_wp2_with fail
            go_roundg (32 - (k + 1))
            case measure => omega
            case rel => exact ⟨k + 1, by go_num, by omega, rfl, Lib.hid (by have := HD.out.set k (.int .u8 (b.toNat : Nat)); rwa [fillC_set d hlt HX.out] at this), Lib.hid (HB.out.setOther (by simp) _), Lib.hid (HK.out.setCell _ _ (fun hh => absurd hh (by simp)))⟩
          · have klt : ¬ (k : Int) < 32 := by omega
            have hk32 : k = 32 := by omega
            have HD2 := Lib.hid (show Blk wr (w.heap.size + 1) 23 (digC d) by have := HD.out; rwa [hk32, fillC_all] at this); have HSd := Lib.hid (dig_st d); clear hk32
            go_wp2_with (first | ((with_reducible refine gM 6 ?_); refine wpList_load_mid rfl 23 (.tmp 6) rfl (w.heap.size + 1) 0 (by rfl) (digC d) _ HD2.out.range' Tryz.underlying23 rfl (dig_size _) ?_; try simp only [Act.put, sqA, sqB, sqC]) | ((with_reducible refine gS 4 46 ?_); refine wpList_store_mid rfl 23 (.tmp 4) (.tmp 46) rfl w.heap.size 0 (digC d).toArray (by rfl) (by first | rfl | kernel_rfl) (HB.out.there' 0 _ (by simp [digC_length])) HSd.out.1 HSd.out.2 ?_; try simp only [Act.put]) | fail); have hload := HEnd.out d wr HK.out HB.out; rw [HR.out]; refine bodyPost_ret (v := .tuple #[.agg (digC d).toArray, .bool true]) (by simp [results, Tryz.results53, asAddr, Result.andThen, hload.1]) rfl ⟨rfl, hload.2⟩
    · have HR := Lib.hid (behind_other ht); have q2 : (s.take 7 == [115, 104, 97, 50, 53, 54, 58]) = false := by simpa [pfxD] using ht
      have l7 : (7 : Int) ≤ (s.length : Int) := by omega
      clear h71 ht; go_enter Tryz.func53, Tryz.ntmps53
      go_wp2_with (first | ((with_reducible refine gS 6 10 ?_); refine wpList_store_mid rfl 23 (.tmp 6) (.tmp 10) rfl (w.heap.size + 1) 0 (digC zeroD).toArray (by rfl) (by first | rfl | kernel_rfl) (BD.out.there' 0 _ (by simp [digC_length])) HSz.out.1 HSz.out.2 ?_; rw [HWB.out]; try simp only [Act.put]) | ((with_reducible refine gM 6 ?_); refine wpList_load_mid rfl 23 (.tmp 6) rfl (w.heap.size + 1) 0 (by rfl) (digC zeroD) _ BD2.out.range' Tryz.underlying23 rfl HDZ.out ?_; try simp only [Act.put, sqA, sqB, sqC]) | ((with_reducible refine gS 4 25 ?_); refine wpList_store_mid rfl 23 (.tmp 4) (.tmp 25) rfl w.heap.size 0 (digC zeroD).toArray (by rfl) (by first | rfl | kernel_rfl) (BA2.out.there' 0 _ (by simp [digC_length])) HSz.out.1 HSz.out.2 ?_; try simp only [Act.put]) | fail); have hload := HEnd.out zeroD wB KB.out BA2.out; rw [HR.out]; refine bodyPost_ret (v := .tuple #[.agg (digC zeroD).toArray, .bool false]) (by simp [results, Tryz.results53, asAddr, Result.andThen, hload.1]) rfl ⟨rfl, hload.2⟩
  · have HR := Lib.hid (behind_not71 h71); have q1 := (int_ne (show (s.length : Int) ≠ 71 by omega)).2; clear h71; go_enter Tryz.func53, Tryz.ntmps53
    go_wp2_with (first | ((with_reducible refine gS 6 10 ?_); refine wpList_store_mid rfl 23 (.tmp 6) (.tmp 10) rfl (w.heap.size + 1) 0 (digC zeroD).toArray (by rfl) (by first | rfl | kernel_rfl) (BD.out.there' 0 _ (by simp [digC_length])) HSz.out.1 HSz.out.2 ?_; rw [HWB.out]; try simp only [Act.put]) | ((with_reducible refine gM 6 ?_); refine wpList_load_mid rfl 23 (.tmp 6) rfl (w.heap.size + 1) 0 (by rfl) (digC zeroD) _ BD2.out.range' Tryz.underlying23 rfl HDZ.out ?_; try simp only [Act.put, sqA, sqB, sqC]) | ((with_reducible refine gS 4 25 ?_); refine wpList_store_mid rfl 23 (.tmp 4) (.tmp 25) rfl w.heap.size 0 (digC zeroD).toArray (by rfl) (by first | rfl | kernel_rfl) (BA2.out.there' 0 _ (by simp [digC_length])) HSz.out.1 HSz.out.2 ?_; try simp only [Act.put]) | fail); have hload := HEnd.out zeroD wB KB.out BA2.out; rw [HR.out]; refine bodyPost_ret (v := .tuple #[.agg (digC zeroD).toArray, .bool false]) (by simp [results, Tryz.results53, asAddr, Result.andThen, hload.1]) rfl ⟨rfl, hload.2⟩
end Go.Proofs.YtlhnjkekjbbhcaaGreatDoor
