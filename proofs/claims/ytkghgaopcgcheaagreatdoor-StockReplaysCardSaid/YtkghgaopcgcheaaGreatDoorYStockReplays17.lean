/- Parts of the proof of StockReplays, in order. No conditions but those that each theorem states. -/
import Derived.Test.YtkghgaopcgcheaaGreatDoorYStockReplays0
import Derived.Lib.ConvBytes
import Derived.Laws.IdiomCopy
import Derived.Laws.AppendOwn
import Derived.Lib.UnsafeStr
import Derived.Test.YtkghgaopcgcheaaGreatDoorYStockReplays14
set_option maxRecDepth 100000
set_option maxHeartbeats 16000000
set_option linter.unusedSimpArgs false
set_option linter.unusedVariables false
namespace Go.Proofs.YtkghgaopcgcheaaGreatDoor
open Go.RowKit
def Byt (base : Nat) (w : World) (v : Value) (l : List UInt8) : Prop :=
  ∃ g cap cur fz, v = .slice (some ⟨g, 0, none⟩) l.length cap ∧ base ≤ g ∧ w.heap[g]? = some (.cells cur 5 fz) ∧ (fz.2 = 0 ∨ cap ≤ fz.1) ∧ l.length ≤ cap ∧ cap ≤ maxLen ∧ cur.size = cap ∧ cur.toList.take l.length = bytC l
theorem Byt.conv (w : World) (l : List UInt8) (hl : l.length ≤ maxLen) {base : Nat} (hb : base ≤ w.heap.size) : Byt base (Lib.bytesWorld w 5 (S l)) (.slice (some ⟨w.heap.size, 0, none⟩) l.length (grownCap w l.length 0 5)) l := by
  have hsz : (Lib.bytesCells w 5 (S l)).size = grownCap w l.length 0 5 := by
    have := grownCap_ge w l.length 0 5; unfold Lib.bytesCells; rw [Array.size_append, Array.size_map, Array.size_replicate]; rw [show (S l).data.size = l.length from rfl, show (S l).size = l.length from rfl]; omega
  refine ⟨w.heap.size, _, _, _, rfl, hb, Lib.bytesWorld_at_new w _ _, Or.inr (by rw [hsz]; exact Nat.le_refl _), grownCap_ge _ _ _ _, grownCap_le_maxLen _ _ _ _ hl, hsz, ?_⟩; simp [Lib.bytesCells, S, bytC]
theorem Byt.at {base : Nat} {w : World} {v : Value} {l : List UInt8} (h : Byt base w v l) : ∃ g cap, v = .slice (some ⟨g, 0, none⟩) l.length cap ∧ base ≤ g ∧ g < w.heap.size ∧ l.length ≤ maxLen ∧ ∀ j c, l[j]? = some c → w.cell? ⟨g, j, none⟩ = some (.int .u8 (c.toNat : Nat)) := by
  obtain ⟨g, cap, cur, fz, rfl, hb, hg, hf, h1, h2, h3, h4⟩ := h; refine ⟨g, cap, rfl, hb, lt_of_block hg, by omega, fun j c hc => ?_⟩; have hj : j < l.length := (List.getElem?_eq_some_iff.1 hc).1; rw [cell_of_row w g j _ _ _ hg]; have := bytC_get hc; rw [← h4, List.getElem?_take, if_pos hj] at this; simpa using this
theorem Byt.keep {base : Nat} {w w' : World} {v : Value} {l : List UInt8} {S : List Nat} (h : Byt base w v l) (k : Keep S w w') (hs : ∀ x ∈ S, x < base) : Byt base w' v l := by
  obtain ⟨g, cap, cur, fz, rfl, hb, hg, rest⟩ := h; exact ⟨g, cap, cur, fz, rfl, hb, k.heap hg (fun hm => by have := hs g hm; omega), rest⟩
theorem Byt.back {base : Nat} {w : World} {v : Value} {l : List UInt8} (h : Byt base w v l) : (convert 126 9 v).run Tryz.prog w = .ok (.string (S l)) w := by
  obtain ⟨g, cap, rfl, _, _, _, hc⟩ := h.at; refine run_convert_bytes_back w 126 9 5 ⟨g, 0, none⟩ cap l Tryz.underlying126 Tryz.underlying5 Tryz.underlying9 (fun j hj => ?_); have ha : (⟨g, 0, none⟩ : Addr).add j = ⟨g, j, none⟩ := by unfold Addr.add; split <;> simp_all
  rw [ha]; exact hc j _ (List.getElem?_eq_getElem hj)
theorem Byt.app {base : Nat} {w : World} {v : Value} {l : List UInt8} (h : Byt base w v l) (ty : TypeId) (c : UInt8) (n cp : Nat) (hbase : base ≤ w.heap.size) (hn : w.cell? ⟨n, 0, none⟩ = some (.int .u8 (c.toNat : Nat))) (hl : l.length ≤ 1048576) :
    ∃ v' w', (Builtin.append_ #[126, 126] ty #[v, .slice (some ⟨n, 0, none⟩) 1 cp]).run Tryz.prog w = .ok v' w' ∧ Byt base w' v' (l ++ [c]) ∧ w.grownBy w' v.ownBlock := by
  obtain ⟨i, hi, hz0, hz1, hz2⟩ := info_parts u8inf; have hat := h.at; obtain ⟨g, cap, cur, fz, rfl, hb, hg, hf, h1, h2, h3, h4⟩ := h; have hadd : ∀ (b j : Nat), (⟨b, 0, none⟩ : Addr).add j = ⟨b, j, none⟩ := fun b j => by unfold Addr.add; split <;> simp_all
  have hnews : ∀ j u, ([.int .u8 (c.toNat : Nat)] : List Value)[j]? = some u → w.cell? ((⟨n, 0, none⟩ : Addr).add j) = some u := fun j u hu => by
    have hj : j = 0 := by have := (List.getElem?_eq_some_iff.1 hu).1; simpa using this
    subst hj; rw [hadd, hn]; exact hu
  by_cases hroom : l.length + 1 ≤ cap
  · have hff := run_firstCells_some (P := Tryz.prog) w i.size 1 ⟨n, 0, none⟩ 1 cp [.int .u8 (c.toNat : Nat)] (by rw [hz1]; rfl) hnews
    have hst := run_storeCells_cells (P := Tryz.prog) g l.length [.int .u8 (c.toNat : Nat)] 0 w (fun j hj => by
      rw [cell_of_row w g _ _ _ _ hg]; simp at hj; simp
      omega) (fun j hj => by
      unfold World.frozen?; rw [hg]; simp at hj; simp; intro hh; rcases hf with hf | hf
      · omega
      · omega) (by simp [Value.oneCell'])
    have hrun : (Builtin.append_ #[126, 126] ty #[.slice (some ⟨g, 0, none⟩) l.length cap, .slice (some ⟨n, 0, none⟩) 1 cp]).run Tryz.prog w = .ok (.slice (some ⟨g, 0, none⟩) (l.length + 1) cap) (w.setCells g l.length [.int .u8 (c.toNat : Nat)]) := by
      rw [hz1] at hff; simp only [Nat.add_zero] at hst; have ha2 : ({ block := g, off := l.length, spot := none } : Addr) = (⟨g, 0, none⟩ : Addr).add l.length := (hadd _ _).symm; simp [Builtin.append_, run_underlying Tryz.underlying126, sizeOf, typeInfo, hi, hz1, Builtin.lenOf, hroom, hff, hadd, hst]
    refine ⟨_, _, hrun, ?_, ?_⟩
    · refine ⟨g, cap, cur.setIfInBounds l.length (.int .u8 (c.toNat : Nat)), fz, by simp, hb, ?_, hf, by simp; omega, h2, by simp [h3], ?_⟩
      · simp only [Nat.add_zero, World.setCells]; simp [World.setCell, Array.getElem?_modify, hg]
      · have hlt : l.length < cur.toList.length := by simp; omega
        obtain ⟨z, hz⟩ : ∃ z, cur.toList[l.length]? = some z := ⟨_, List.getElem?_eq_getElem hlt⟩
        rw [List.length_append, List.length_singleton, Array.toList_setIfInBounds, List.take_add_one, List.getElem?_set_self hlt, List.take_set_of_le (Nat.le_refl _), h4]; simp [bytC]
    · exact ⟨rfl, rfl, rfl, by simp [World.setCells, World.setCell], fun k _ hk => by
        simp only [Nat.add_zero, World.setCells]
        exact Below.heap_setCell _ _ _ _ (fun e => hk (by simp [Value.ownBlock, e]))⟩
  · obtain ⟨g', cap', hv, _, _, _, hc⟩ := hat; cases hv
    have hr := run_append_grow (P := Tryz.prog) w 126 ty 5 i _ Tryz.underlying126 hi hz0 ⟨g, 0, none⟩ l.length cap (bytC l) (by rw [hz1, bytC_length]; omega) (fun j u hu => by
      rw [hadd]; obtain ⟨x, hx, rfl⟩ : ∃ x, l[j]? = some x ∧ Value.int .u8 (x.toNat : Nat) = u := by simpa [bytC] using hu
      exact hc j x hx) ⟨n, 0, none⟩ 1 cp [.int .u8 (c.toNat : Nat)] (by rw [hz1]; rfl) hnews (by omega) (by omega) (growslice_fits (by omega) (by rw [hz2]; omega))
    have hge := grownCap_ge w (l.length + 1) cap 5; have hcm2 := grownCap_le_maxLen w (l.length + 1) cap 5 (by unfold maxLen; omega); refine ⟨_, _, hr, ⟨w.heap.size, _, _, (0, 0), by simp, hbase, heap_alloc_new w.drew _, Or.inl rfl, by simpa using hge, hcm2, ?_, ?_⟩, ⟨rfl, rfl, rfl, by simp, fun k hk _ => Below.heap_alloc w.drew _ k hk⟩⟩
    · simp only [Array.size_append, List.size_toArray, size_zeroCells, bytC_length, List.length_singleton]; have : (Value.int IntKind.u8 0).cells.size = 1 := rfl; rw [this]; omega
    · rw [List.length_append, List.length_singleton, Array.toList_append, Array.toList_append, List.take_append_of_le_length (by simp [bytC]), List.take_of_length_le (by simp [bytC])]; simp [bytC]
theorem wpList_appB {ops : Array Oper} {rest : List Oper} {o : Oper} {a : Act} {Q : Exit → Act → World → Prop} (hgd : o.guard = none) (s x : Operand) (ho : o.op = .call { callee := .builtin .append, args := #[s, x], argTypes := #[126, 126] })
    {v : Value} {l : List UInt8} (w0 w : World) (hk : Keep [] w0 w) (hs : a.eval s = v) (h : Byt w0.heap.size w v l) (c : UInt8) (cs : List Value) (hcs : cs = [.int .u8 (c.toNat : Nat)]) (cp : Nat) (hx : a.eval x = .slice (some ⟨w.heap.size, 0, none⟩) 1 cp) (hl : l.length ≤ 1048576)
    (hK : ∀ v' w', Byt w0.heap.size w' v' (l ++ [c]) → Keep [] w0 w' → wpList Tryz.prog ops Q rest (a.put o.dst v') w') : wpList Tryz.prog ops Q (o :: rest) a (w.alloc (.cells cs.toArray 5)) := by
  subst hcs; refine wpList_plain hgd fun K hK' => ?_
  have hk1 : Keep [] w (w.alloc (.cells ([.int .u8 (c.toNat : Nat)] : List Value).toArray 5)) := (Keep.refl [] w).alloc _; have h1 := h.keep hk1 (by simp); have hc0 := (Blk.new w [.int .u8 (c.toNat : Nat)] 5).get (k := 0) rfl; obtain ⟨v', w', hr, h2, h3⟩ := h1.app o.type c w.heap.size cp (Nat.le_trans hk.size hk1.size) hc0 hl; have hg := h1.at; unfold Oper.wp execOp; simp only [ho, resolve, invoke, builtin, Sem.run_bind, Sem.run_pure, Result.andThen_ok, List.map_toArray, List.map_cons, List.map_nil, hs, hx, hr]; refine hK' _ _ (hK v' w' h2 ((hk.trans hk1).grown h3 (fun k hk2 hk3 => ?_))); obtain ⟨g, cap, rfl, hb, _⟩ := hg; simp [Value.ownBlock] at hk2; omega
theorem alloc_size' (w : World) (o : Obj) : (w.alloc o).heap.size = w.heap.size + 1 := by simp
def framedM (l : List UInt8) : List UInt8 := [u8of ((l.length : Nat) / 256), u8of (l.length : Nat)] ++ crcTail (crcOf [[u8of ((l.length : Nat) / 256), u8of (l.length : Nat)], l]) ++ l
theorem slip_framed (l : List UInt8) (w : World) (hl : l.length ≤ 1000000) (ht : NibT w) : Calls Tryz.prog 177 #[.string (S l)] w fun e w' => e = .returned (.string (S (framedM l))) ∧ Keep [] w w' := by
  have hsz := S_size l; obtain ⟨n2, hn2⟩ : ∃ n, [u8of ((l.length : Nat) / 256), u8of (l.length : Nat)] = n := ⟨_, rfl⟩
  have hw1 := u8of_wrap ((l.length : Int) / 256); have hw2 := u8of_wrap (l.length : Int); have hb1 := Blk.new w (bytC n2) 5; have hk1 := (Keep.refl [] w).alloc (.cells (bytC n2).toArray 5); have hcv := bytes_back hb1 2; have h2 : n2.length = 2 := by rw [← hn2]; rfl
  rw [h2] at hcv; have e1 : (bytC n2).toArray = #[.int .u8 ((u8of ((l.length : Int) / 256)).toNat : Nat), .int .u8 ((u8of (l.length : Int)).toNat : Nat)] := by rw [← hn2]; rfl
  rw [e1] at hcv hk1; have hn63 : IntKind.u8.wrap 0 = 0 := by decide
  go_enter Tryz.func177, Tryz.ntmps177; go_wp2_with fail; have hz1 := alloc_size' w (.cells #[.int .u8 ((u8of ((l.length : Int) / 256)).toNat : Nat), .int .u8 ((u8of (l.length : Int)).toNat : Nat)] 5); generalize w.alloc (.cells #[.int .u8 ((u8of ((l.length : Int) / 256)).toNat : Nat), .int .u8 ((u8of (l.length : Int)).toNat : Nat)] 5) = w1 at hk1 hz1 ⊢; have hk2 := hk1.alloc (.cells #[.string (S n2), .string (S l)] 9); have hb2 := Blk.newA w1 #[.string (S n2), .string (S l)] 9; rw [← hz1]
  have hsl : Sl strC 1 (w1.alloc (.cells #[.string (S n2), .string (S l)] 9)) (.slice (some ⟨w1.heap.size, 0, none⟩) 2 2) [n2, l] := by
    refine .inr ⟨_, 0, 2, rfl, by simp, by decide, fun i x hx k hk => ?_⟩; obtain rfl : k = 0 := by omega
    rw [Nat.zero_add, Nat.mul_one, Nat.add_zero]
    match i, hx with
    | 0, hx => simp at hx; subst hx; exact hb2.get rfl
    | 1, hx => simp at hx; subst hx; exact hb2.get rfl
  generalize w1.alloc (.cells #[.string (S n2), .string (S l)] 9) = w2 at hk2 hb2 hsl ⊢; refine (crc_Of _ [n2, l] w2 hsl (by intro q hq; simp at hq; rcases hq with rfl | rfl <;> (unfold maxLen; omega)) (ht.keep0 hk2)).mono ?_; rintro e w3 ⟨rfl, rfl⟩; have HK := Lib.hid hk2; have HF := Lib.hid (show framedM l = n2 ++ crcTail (crcOf [n2, l]) ++ l by rw [← hn2]; rfl); obtain ⟨c, hc⟩ : ∃ c, crcOf [n2, l] = c := ⟨_, rfl⟩
  rw [hc] at HF ⊢; have hlt : (crcTail c).length = 4 := rfl; have st := S_size (crcTail c); have sn := S_size n2; have a1 : S n2 ++ S (crcTail c) = S (n2 ++ crcTail c) := S_append _ _; have a2 : S (n2 ++ crcTail c) ++ S l = S (n2 ++ crcTail c ++ l) := S_append _ _; have HC := Lib.hid (fun w => crc_Tail c w); clear hk1 hk2 hb1 hb2 hsl hc hn2 hz1 hcv e1; generalize crcTail c = tl at *; go_wp2_with fail; refine (HC.out _).mono ?_; rintro e w4 ⟨rfl, k4⟩; have HK4 := Lib.hid (HK.out.trans k4); clear k4; have s3 := S_size (n2 ++ tl); have hln : (n2 ++ tl).length = 6 := by rw [List.length_append, h2, hlt]
  go_wp2_with fail; go_ret; exact ⟨by rw [HF.out, List.append_assoc]; rfl, HK4.out⟩
def Sc (w : World) (b : Nat) (s : List UInt8 × Bool) : Prop := Blk w b 263 [.string (S s.1), .bool s.2]
def takeM (s : List UInt8 × Bool) (n : Int) : List UInt8 × (List UInt8 × Bool) := if s.2 = true ∨ (s.1.length : Int) < n then ([], (s.1, true)) else (s.1.take n.toNat, (s.1.drop n.toNat, false))
theorem scan_take (b : Nat) (s : List UInt8 × Bool) (n : Nat) (w : World) (h : Sc w b s) (hl : s.1.length ≤ 1000000) (hn : n ≤ 1000000) : Calls Tryz.prog 208 #[.pointer (some ⟨b, 0, none⟩), .int .i64 (n : Nat)] w fun e w' => e = .returned (.string (S (takeM s n).1)) ∧ Sc w' b (takeM s n).2 ∧ Keep [b] w w' := by
  obtain ⟨r, bad⟩ := s; have hsz := S_size r; have c0 : w.cell? ⟨b, 0, none⟩ = some (.string (S r)) := h.get rfl; have c1 : w.cell? ⟨b, 1, none⟩ = some (.bool bad) := h.get rfl; have z0 := h.frozen 0; have z1 := h.frozen 1; have HS := Lib.hid h; clear h
  cases bad with
  | true =>
    have HT := Lib.hid (show takeM (r, true) n = ([], (r, true)) from if_pos (Or.inl rfl)); rw [HT.out]; have HB := Lib.hid (show Sc (w.setCell ⟨b, 1, none⟩ (.bool true)) b (r, true) from HS.out.set 1 (.bool true)); go_enter Tryz.func208, Tryz.ntmps208; go_wp2_with fail; go_ret; exact ⟨rfl, HB.out, (Keep.refl _ _).setCell _ _ (by simp)⟩
  | false =>
    by_cases hlt : r.length < n
    · have f1 : decide ((r.length : Int) < (n : Int)) = true := decide_eq_true (by omega); have HT := Lib.hid (show takeM (r, false) n = ([], (r, true)) from if_pos (Or.inr (by show (r.length : Int) < n; omega))); rw [HT.out]; have HB := Lib.hid (show Sc (w.setCell ⟨b, 1, none⟩ (.bool true)) b (r, true) from HS.out.set 1 (.bool true)); go_enter Tryz.func208, Tryz.ntmps208; go_wp2_with fail; go_ret; exact ⟨rfl, HB.out, (Keep.refl _ _).setCell _ _ (by simp)⟩
    · have f1 : decide ((r.length : Int) < (n : Int)) = false := decide_eq_false (by omega)
      have HT := Lib.hid (show takeM (r, false) n = (r.take n, (r.drop n, false)) from by
        unfold takeM; rw [if_neg (by simp; omega)]; simp)
      rw [HT.out]; have HB := Lib.hid (show Sc (w.setCell ⟨b, 0, none⟩ (.string (S (r.drop n)))) b (r.drop n, false) from HS.out.set 0 (.string (S (r.drop n)))); have e1 : (S r).extract 0 n = S (r.take n) := by rw [S_extract]; simp
      have e2 : (S r).extract n r.length = S (r.drop n) := by rw [S_extract, List.take_of_length_le (Nat.le_refl _)]
      have q0 : (0 : Int) ≤ (n : Int) := by omega
      have q1 : (n : Int) ≤ (r.length : Int) := by omega
      have q2 : n ≤ r.length := by omega
      go_enter Tryz.func208, Tryz.ntmps208; go_wp2_with fail; go_ret; exact ⟨rfl, HB.out, (Keep.refl _ _).setCell _ _ (by simp)⟩
def byteM (s : List UInt8 × Bool) : Int × (List UInt8 × Bool) := match (takeM s 1).1 with
  | [] => (0, (takeM s 1).2)
  | c :: _ => ((c.toNat : Nat), (takeM s 1).2)
theorem takeM_le (s : List UInt8 × Bool) (n : Int) : (takeM s n).2.1.length ≤ s.1.length := by
  unfold takeM
  split
  · exact Nat.le_refl _
  · simp
theorem scan_byte (b : Nat) (s : List UInt8 × Bool) (w : World) (h : Sc w b s) (hl : s.1.length ≤ 1000000) : Calls Tryz.prog 206 #[.pointer (some ⟨b, 0, none⟩)] w fun e w' => e = .returned (.int .i64 (byteM s).1) ∧ Sc w' b (byteM s).2 ∧ Keep [b] w w' := by
  have HT := Lib.hid (show Calls Tryz.prog 208 #[.pointer (some ⟨b, 0, none⟩), .int .i64 1] w _ from scan_take b s 1 w h hl (by omega)); have h2 : (byteM s).2 = (takeM s 1).2 := by unfold byteM; split <;> rfl
  rw [h2]; have h1 : (byteM s).1 = match (takeM s 1).1 with | [] => 0 | c :: _ => ((c.toNat : Nat) : Int) := by unfold byteM; split <;> rfl
  rw [h1]; clear h1 h2 h; have HT' : Hid (Calls Tryz.prog 208 #[.pointer (some ⟨b, 0, none⟩), .int .i64 1] w fun e w' => e = .returned (.string (S (takeM s 1).1)) ∧ Sc w' b (takeM s 1).2 ∧ Keep [b] w w') := HT; clear HT; generalize (takeM s 1).2 = s2 at HT' ⊢; generalize (takeM s 1).1 = t at HT' ⊢
  match t, HT' with
  | [], HT' =>
    have q0 : ((S ([] : List UInt8)).toList == ([] : List UInt8)) = true := by rw [S_toList]; rfl
    have q1 : (S ([] : List UInt8)).toList.isEmpty = true := by rw [S_toList]; rfl
    go_enter Tryz.func206, Tryz.ntmps206; go_wp2_with fail; refine HT'.out.mono ?_; rintro e w1 ⟨rfl, s1, k1⟩; have HR := Lib.hid (And.intro s1 k1); clear s1 k1; go_wp2_with fail; go_ret; exact ⟨rfl, HR.out⟩
  | c :: r, HT' =>
    have q0 : ((S (c :: r)).toList == ([] : List UInt8)) = false := by rw [S_toList]; rfl
    have q1 : (S (c :: r)).toList.isEmpty = false := by rw [S_toList]; rfl
    have hg := S_get (l := c :: r) (k := 0) (c := c) rfl; have hsz := S_size (c :: r); have c8 := u8_nat c; go_enter Tryz.func206, Tryz.ntmps206; go_wp2_with fail; refine HT'.out.mono ?_; rintro e w1 ⟨rfl, s1, k1⟩; have HR := Lib.hid (And.intro s1 k1); clear s1 k1; go_wp2_with fail; go_ret; exact ⟨rfl, HR.out⟩
theorem byteM_le (s : List UInt8 × Bool) : (byteM s).2.1.length ≤ s.1.length ∧ 0 ≤ (byteM s).1 ∧ (byteM s).1 < 256 := by
  have := takeM_le s 1; unfold byteM
  split
  · exact ⟨this, by simp, by simp⟩
  · rename_i c r h; have := u8_nat c; exact ⟨takeM_le s 1, by show (0 : Int) ≤ (c.toNat : Nat); omega, by show ((c.toNat : Nat) : Int) < 256; omega⟩
def textM (s : List UInt8 × Bool) : List UInt8 × (List UInt8 × Bool) := takeM (byteM s).2 (byteM s).1
theorem scan_text (b : Nat) (s : List UInt8 × Bool) (w : World) (h : Sc w b s) (hl : s.1.length ≤ 1000000) : Calls Tryz.prog 207 #[.pointer (some ⟨b, 0, none⟩)] w fun e w' => e = .returned (.string (S (textM s).1)) ∧ Sc w' b (textM s).2 ∧ Keep [b] w w' := by
  have HB := Lib.hid (scan_byte b s w h hl); obtain ⟨l1, l2, l3⟩ := byteM_le s; unfold textM; generalize (byteM s).2 = s2 at HB l1 ⊢; generalize (byteM s).1 = m at HB l2 l3 ⊢; obtain ⟨n, rfl⟩ : ∃ n : Nat, m = (n : Nat) := ⟨m.toNat, by omega⟩
  obtain ⟨T, hT⟩ : ∃ T, takeM s2 (n : Nat) = T := ⟨_, rfl⟩
  rw [hT]; have HT := Lib.hid (fun w (k : Sc w b s2) => scan_take b s2 n w k (by omega) (by omega)); rw [hT] at HT; clear h hT; go_enter Tryz.func207, Tryz.ntmps207; go_wp2_with fail; refine HB.out.mono ?_; rintro e w1 ⟨rfl, s1, k1⟩; have HT1 := Lib.hid (HT.out w1 s1); have HK := Lib.hid k1; clear s1 k1; go_wp2_with fail; refine HT1.out.mono ?_; rintro e w2 ⟨rfl, s2', k2⟩; have HR := Lib.hid (And.intro s2' (HK.out.trans k2)); clear s2' k2; go_wp2_with fail; go_ret; exact ⟨rfl, HR.out⟩
def num8 (l : List UInt8) : Int := l.foldl (fun n c => bits .or .u64 (IntKind.u64.wrap (n * 256)) (c.toNat : Nat)) 0
theorem num8_pos (l : List UInt8) : 0 ≤ num8 l := by
  have h : ∀ (l : List UInt8) (n : Int), 0 ≤ n → 0 ≤ l.foldl (fun n c => bits .or .u64 (IntKind.u64.wrap (n * 256)) ((c.toNat : Nat) : Int)) n := by
    intro l
    induction l with
    | nil => intro n h; exact h
    | cons c r ih =>
      intro n _; refine ih _ ?_; show 0 ≤ IntKind.u64.wrap _; simp only [IntKind.wrap, IntKind.signed, IntKind.bits]; simp; omega
  exact h l 0 (by omega)
def numberM (s : List UInt8 × Bool) : Int × (List UInt8 × Bool) := if 1099511627776 < num8 (takeM s 8).1 then (0, ((takeM s 8).2.1, true)) else (num8 (takeM s 8).1, (takeM s 8).2)
theorem num8_snoc {l : List UInt8} {k : Nat} {c : UInt8} (h : l[k]? = some c) : num8 (l.take (k + 1)) = bits .or .u64 (IntKind.u64.wrap (num8 (l.take k) * 256)) (c.toNat : Nat) := by
  rw [take_snoc h, num8, List.foldl_append]; rfl
theorem scan_number (b : Nat) (s : List UInt8 × Bool) (w : World) (h : Sc w b s) (hl : s.1.length ≤ 1000000) : Calls Tryz.prog 209 #[.pointer (some ⟨b, 0, none⟩)] w fun e w' => e = .returned (.int .i64 (numberM s).1) ∧ Sc w' b (numberM s).2 ∧ Keep [b] w w' := by
  have HT : Hid (Calls Tryz.prog 208 #[.pointer (some ⟨b, 0, none⟩), .int .i64 8] w fun e w' => e = .returned (.string (S (takeM s 8).1)) ∧ Sc w' b (takeM s 8).2 ∧ Keep [b] w w') := scan_take b s 8 w h hl (by omega)
  have htl : (takeM s 8).1.length ≤ 8 := by
    unfold takeM
    split
    · exact Nat.zero_le _
    · simp; omega
  have hblt := h.lt; unfold numberM; generalize (takeM s 8).2 = s2 at HT ⊢; generalize (takeM s 8).1 = t at HT htl ⊢; obtain ⟨N, hN⟩ : ∃ N, num8 t = N := ⟨_, rfl⟩
  have hN0 : 0 ≤ N := by rw [← hN]; exact num8_pos t
  rw [hN]; have HN := Lib.hid hN; have hsz := S_size t; obtain ⟨R, hR⟩ : ∃ R, (if 1099511627776 < N then ((0 : Int), (s2.1, true)) else (N, s2)) = R := ⟨_, rfl⟩
  rw [hR]; have HR := Lib.hid hR; clear h hN hR; go_enter Tryz.func209, Tryz.ntmps209; go_wp2_with fail; refine HT.out.mono ?_; rintro e w1 ⟨rfl, s1, k1⟩; have hcv := conv_run w1 (S t); rw [hsz] at hcv; have HC := Lib.hid (fun (k : Nat) (c : UInt8) (h : t[k]? = some c) => conv_at w1 5 h); have kc := conv_keep w1 5 (S t); have HW := Lib.hid (And.intro (show Sc (Lib.bytesWorld w1 5 (S t)) b s2 from kc.blk s1 (by simp)) (k1.trans (kc.mono (by simp)))); generalize Lib.bytesWorld w1 5 (S t) = w2 at hcv HC HW; clear kc k1 s1; go_wp2_with fail
  go_loopg [3, 10] t.length (fun g v i wr => ∃ k : Nat, v = .int .u64 (num8 (t.take k)) ∧ i = .int .i64 (k : Nat) ∧ k ≤ t.length ∧ g = t.length - k ∧ wr = w2)
  case atStart => exact ⟨0, rfl, rfl, Nat.zero_le _, rfl, rfl⟩
  case round =>
    obtain ⟨k, rfl, rfl, hk, hg, rfl⟩ := hrel; by_cases hlt : k < t.length
    · obtain ⟨c, hc⟩ : ∃ c, t[k]? = some c := ⟨_, List.getElem?_eq_getElem hlt⟩
      have c8 := u8_nat c; have hcell := HC.out k c hc; have wk := IntWalk.i64_in ((k : Int) + 1) (by omega); have f1 : decide ((k : Int) < (t.length : Nat)) = true := decide_eq_true (by omega); have hwr : IntKind.u64.wrap ((c.toNat : Nat) : Int) = (c.toNat : Nat) := by simp [IntKind.wrap, IntKind.signed, IntKind.bits]; omega
      have HS := Lib.hid (num8_snoc hc); clear hc; generalize num8 (t.take k) = z at HS ⊢; have hz : IntKind.u64.wrap (z * 256) = z * 256 % 18446744073709551616 := by simp [IntKind.wrap, IntKind.signed, IntKind.bits]
      obtain ⟨y, hy⟩ : ∃ y, bits .or .u64 (z * 256 % 18446744073709551616) ((c.toNat : Nat) : Int) = y := ⟨_, rfl⟩
      have HY := Lib.hid (show num8 (t.take (k + 1)) = y by rw [HS.out, hz]; exact hy); go_wp2_with fail
      go_roundg (t.length - (k + 1))
      case measure => omega
      case rel => exact ⟨k + 1, by rw [HY.out], rfl, by omega, rfl, rfl⟩
    · obtain rfl : k = t.length := by omega
      rw [List.take_length, HN.out]; have f1 : decide ((t.length : Int) < (t.length : Nat)) = false := decide_eq_false (by omega); by_cases hgt : 1099511627776 < N
      · have f2 : decide (1099511627776 < N) = true := decide_eq_true hgt; have c1 : wr.cell? ⟨b, 1, none⟩ = some (.bool s2.2) := HW.out.1.get rfl; have z1 := HW.out.1.frozen 1; have HE := Lib.hid (show Sc (wr.setCell ⟨b, 1, none⟩ (.bool true)) b (s2.1, true) ∧ Keep [b] w (wr.setCell ⟨b, 1, none⟩ (.bool true)) from ⟨HW.out.1.set 1 (.bool true), HW.out.2.setCell _ _ (by simp)⟩); have HI := Lib.hid (show R = (0, (s2.1, true)) from HR.out.symm.trans (if_pos hgt)); clear hgt; go_wp2_with fail; go_ret; rw [HI.out]; exact ⟨rfl, HE.out⟩
      · have f2 : decide (1099511627776 < N) = false := decide_eq_false hgt; have wN := IntWalk.i64_in N (by omega); have HI := Lib.hid (show R = (N, s2) from HR.out.symm.trans (if_neg hgt)); clear hgt; go_wp2_with fail; go_ret; rw [HI.out]; exact ⟨rfl, HW.out⟩
end Go.Proofs.YtkghgaopcgcheaaGreatDoor
namespace Go.Proofs.YtkghgaopcgcheaaGreatDoor
open Go.RowKit Go.Shelf
theorem bld_Byte {B b o : Nat} {T : TypeId} {cs : List Value} {v : Value} {l : List UInt8} {w : World} (c : UInt8) (h : Bd B w b o T cs v l) (hl : Lies T cs.length o) (hB : B ≤ w.heap.size) (hlen : l.length + 1 ≤ 140737488355328) :
    Calls Tryz.prog 181 #[.pointer (some ⟨b, o, none⟩), .int .u8 (c.toNat : Nat)] w fun e w' => e = .returned .nilIface ∧
      ∃ v', Bd B w' b o T ((cs.set o (.pointer (some ⟨b, o, none⟩))).set (o + 1) v') v' (l ++ [c]) ∧ Keep (b :: v.ownBlock.toList) w w' ∧ (v'.ownBlock = v.ownBlock ∨ ∃ g, v'.ownBlock = some g ∧ w.heap.size ≤ g) := by
  obtain ⟨i, hi, hz, h1, h2⟩ := u8_info; have hC := Lib.hid (bld_copyCheck b o T cs w h.blk hl h.ad); have H := Lib.hid h; clear h; go_enter Tryz.func181, Tryz.ntmps181; go_wp2_with fail; refine hC.out.mono ?_; rintro e w1 ⟨rfl, hb1, hk1⟩
  have hown1 : Own byteC 1 B 5 w1 v l := H.out.own.keep hk1 (fun g hg => by
    simp only [List.mem_singleton]; rintro rfl; exact H.out.ne hg)
  have c1 := hb1.get (k := o + 1) (v := v) (by rw [List.getElem?_set_ne (by omega)]; exact H.out.buf); have HO := Lib.hid (hown1.alloc (.cells #[.int .u8 (c.toNat : Nat)] 5)); have HN := Lib.hid (Blk.newA w1 #[.int .u8 (c.toNat : Nat)] 5); have HB1 := Lib.hid hb1; have HK1 := Lib.hid hk1; clear hown1 hb1 hk1
  go_wp2_with (at_builtin; go_must (refine wpList_append_own_at _ rfl _ _ 126 rfl B 5 i (.int .u8 0) 1 1 Tryz.underlying126 hi hz h1 h2 rfl (by decide) v l.length (rows byteC l) rfl HO.out ⟨w1.heap.size, 0, none⟩ 1 1 [.int .u8 (c.toNat : Nat)] rfl rfl (fun j u hj => by
      match j, hj with
      | 0, hj => simp at hj; subst hj; exact HN.out.get rfl) (by simp [Value.oneCell']) (by unfold maxLen; omega) (by omega) (by have := HK1.out.size; simp; omega) ?_))
  intro v' w2 hown' hgrow _ hat
  have hgrow1 : Keep v.ownBlock.toList w1 w2 := by
    refine ((Keep.refl _ w1).alloc (.cells #[.int .u8 (c.toNat : Nat)] 5)).grown hgrow (fun k hk _ => by simp [hk])
  have hbl := HB1.out.lt
  have hb2 : Blk w2 b T (cs.set o (.pointer (some ⟨b, o, none⟩))) := hgrow1.blk HB1.out (by
    intro hm; exact H.out.ne (by simpa using hm))
  have d1 := hb2.get (k := o + 1) (v := v) (by rw [List.getElem?_set_ne (by omega)]; exact H.out.buf); have f1 := hb2.frozen (o + 1); have hb3 := hb2.set (o + 1) v'
  have hne' : v'.ownBlock ≠ some b := by
    rcases hat with e | e
    · rw [e]; exact H.out.ne
    · rw [e]; intro e'; injection e' with e'; omega
  have hown2 : Own byteC 1 B 5 w2 v' (l ++ [c]) := by
    unfold Own; have e : rows byteC (l ++ [c]) = rows byteC l ++ [.int .u8 (c.toNat : Nat)] := by simp [rows, byteC]
    rw [e, List.length_append]; exact hown'
  have hown3 : Own byteC 1 B 5 (w2.setCell ⟨b, o + 1, none⟩ v') v' (l ++ [c]) := hown2.keep (S := [b]) ((Keep.refl _ _).setCell _ _ (by simp)) (fun g hg => by
    simp only [List.mem_singleton]; rintro rfl; exact hne' hg)
  have hkk : Keep (b :: v.ownBlock.toList) w (w2.setCell ⟨b, o + 1, none⟩ v') := ((HK1.out.mono (by simp)).trans (hgrow1.mono (fun k hk _ => by simp at hk ⊢; exact Or.inr hk))).setCell _ _ (by simp)
  have hat' : v'.ownBlock = v.ownBlock ∨ ∃ g, v'.ownBlock = some g ∧ w.heap.size ≤ g := by
    rcases hat with e | e
    · exact .inl e
    · exact .inr ⟨_, e, by have := HK1.out.size; omega⟩
  have HF := Lib.hid (And.intro hb3 (And.intro hne' (And.intro hown3 (And.intro hkk hat'))))
  obtain ⟨ao, n', cap, rfl⟩ : ∃ ao n' cap, v' = .slice ao n' cap := by
    rcases hown'.2 with ⟨hv, _⟩ | ⟨g, cap, cur, hv, _⟩
    · exact ⟨_, _, _, hv⟩
    · exact ⟨_, _, _, hv⟩
  clear hb3 hne' hown3 hown2 hkk hat hat' hgrow hgrow1 hown' hb2; have h20 : (cs.set o (.pointer (some ⟨b, o, none⟩)))[o]? = some (.pointer (some ⟨b, o, none⟩)) := by rw [List.getElem?_set_self (by have := hl.2; omega)]
  go_wp2_with fail; go_ret; refine ⟨rfl, _, ⟨HF.out.1, .inr ?_, ?_, HF.out.2.2.1, HF.out.2.1⟩, HF.out.2.2.2.1, HF.out.2.2.2.2⟩
  · rw [List.getElem?_set_ne (by omega)]; exact h20
  · rw [List.getElem?_set_self (by simpa using hl.2)]
def Pg (w0 w : World) (b : Nat) (l : List UInt8) : Prop := ∃ cs v, Bd w0.heap.size w b 0 245 cs v l ∧ cs.length = 2 ∧ w0.heap.size ≤ b ∧ Keep [] w0 w
theorem Pg.keep0 {w0 w w' : World} {b : Nat} {l : List UInt8} (h : Pg w0 w b l) (k : Keep [] w w') : Pg w0 w' b l := by
  obtain ⟨cs, v, h1, h2, h3, h4⟩ := h; exact ⟨cs, v, h1.keep k (by simp) (by simp), h2, h3, h4.trans k⟩
theorem Pg.kept {w0 w : World} {b : Nat} {l : List UInt8} (h : Pg w0 w b l) : Keep [] w0 w := let ⟨_, _, _, _, _, h4⟩ := h; h4
theorem lies_page : Lies 245 2 0 := ⟨by kernel_rfl, by omega⟩
theorem pg_new {w0 w : World} (k : Keep [] w0 w) : Pg w0 (w.alloc (.cells #[.pointer none, .slice none 0 0] 245)) w.heap.size [] :=
  ⟨[.pointer none, .slice none 0 0], .slice none 0 0, ⟨Blk.newA w _ _, .inl rfl, rfl, Own.nil _ _ _ _ _, by simp [Value.ownBlock]⟩, rfl, k.size, k.alloc _⟩
theorem pg_write {w0 w : World} {b : Nat} {l : List UInt8} (h : Pg w0 w b l) (s : List UInt8) (hlen : l.length + s.length ≤ 140737488355328) :
    Calls Tryz.prog 146 #[.pointer (some ⟨b, 0, none⟩), .string (S s)] w fun e w' => e = .returned (.tuple #[.int .i64 (s.length : Nat), .nilIface]) ∧ Pg w0 w' b (l ++ s) := by
  obtain ⟨cs, v, h1, h2, h3, h4⟩ := h; refine (bld_Write s h1 (by rw [h2]; exact lies_page) h4.size hlen).mono ?_; rintro e w' ⟨rfl, v', k1, k2, _⟩
  exact ⟨rfl, _, v', k1, by simpa using h2, h3, h4.trans' k2 (fun x hx hl => by
    rcases List.mem_cons.1 hx with rfl | hx
    · omega
    · have := (h1.own.lt x (by simpa using hx)).1; omega)⟩
theorem pg_byte {w0 w : World} {b : Nat} {l : List UInt8} (h : Pg w0 w b l) (c : UInt8) (hlen : l.length + 1 ≤ 140737488355328) :
    Calls Tryz.prog 181 #[.pointer (some ⟨b, 0, none⟩), .int .u8 (c.toNat : Nat)] w fun e w' => e = .returned .nilIface ∧ Pg w0 w' b (l ++ [c]) := by
  obtain ⟨cs, v, h1, h2, h3, h4⟩ := h; refine (bld_Byte c h1 (by rw [h2]; exact lies_page) h4.size hlen).mono ?_; rintro e w' ⟨rfl, v', k1, k2, _⟩
  exact ⟨rfl, _, v', k1, by simpa using h2, h3, h4.trans' k2 (fun x hx hl => by
    rcases List.mem_cons.1 hx with rfl | hx
    · omega
    · have := (h1.own.lt x (by simpa using hx)).1; omega)⟩
theorem pg_string {w0 w : World} {b : Nat} {l : List UInt8} (h : Pg w0 w b l) (h0 : l ≠ []) :
    Calls Tryz.prog 147 #[.pointer (some ⟨b, 0, none⟩)] w fun e w' => e = .returned (.string (S l)) ∧ Keep [] w0 w' := by
  obtain ⟨cs, v, h1, h2, h3, h4⟩ := h; have hl0 : l.length ≠ 0 := by simpa using h0
  have hown := h1.own
  obtain ⟨g, cap, cur, rfl, hbg, hg, hnc, hcm, hcs, htake⟩ : ∃ g cap cur, v = .slice (some ⟨g, 0, none⟩) l.length cap ∧ w0.heap.size ≤ g ∧ w.heap[g]? = some (.cells cur 5 (0, 0)) ∧ l.length ≤ cap ∧ cap ≤ maxLen ∧ cur.size = cap * 1 ∧ cur.toList.take (l.length * 1) = rows byteC l := by
    rcases hown.2 with ⟨_, hz⟩ | ⟨g, cap, cur, hv, r⟩
    · exact absurd hz hl0
    · exact ⟨g, cap, cur, hv, r⟩
  have c1 : w.drew.cell? ⟨b, 1, none⟩ = some (.slice (some ⟨g, 0, none⟩) l.length cap) := h1.blk.get h1.buf
  have hSD : (Builtin.unsafeSliceData_ #[126] 247 #[.slice (some ⟨g, 0, none⟩) l.length cap]).run Tryz.prog w.drew = .ok (.pointer (some ⟨g, 0, none⟩)) w.drew :=
    Lib.run_unsafeSliceData_row _ _ _ _ _ _ (by omega)
  have hUS : (Builtin.unsafeString_ #[247, 3] 9 #[.pointer (some ⟨g, 0, none⟩), .int .i64 l.length]).run Tryz.prog w.drew = .ok (.string (S l)) (w.drew.freeze ⟨g, 0, none⟩ l.length) := by
    refine Lib.run_unsafeString_row w.drew 247 3 9 5 Tryz.underlying247 (by kernel_rfl) g cur.size (by have hg' : w.drew.heap[g]? = some (.cells cur 5 (0, 0)) := hg; simp [World.shape?, hg']) l h0 (by omega) (by unfold maxLen at hcm; omega) ?_; intro j x hx; have := hown.cells (g := g) rfl j (.int .u8 x.toNat) (by rw [rows_bytes]; simp [Lib.byteCells, hx]); exact this
  have HF := Lib.hid (show Keep [] w0 (w.drew.freeze ⟨g, 0, none⟩ l.length) from by
    have hb := Lib.below_freeze (B := w0.heap.size) (a := w) (w := w.drew) (Below.drew (Below.refl _ w)) (p := ⟨g, 0, none⟩) hbg l.length; exact ⟨hb.os.trans h4.os, hb.tape.trans h4.tape, hb.output.trans h4.output, Nat.le_trans h4.size hb.size, fun k hk hn => (hb.block k hk).trans (h4.block k hk hn)⟩)
  clear hown h1 h4 htake hg h0 hbg; go_enter Tryz.func147, Tryz.ntmps147; go_wp2_with fail
  go_region
  all_goals (go_wp2_with fail; go_ret; exact ⟨rfl, HF.out⟩)
def pgText (s : List UInt8) : List UInt8 := u8of (s.length : Nat) :: s
theorem page_text {w0 w : World} {b : Nat} {l : List UInt8} (h : Pg w0 w b l) (s : List UInt8) (hlen : l.length + s.length + 1 ≤ 140737488355328) :
    Calls Tryz.prog 182 #[.pointer (some ⟨b, 0, none⟩), .string (S s)] w fun e w' => e = .returned (.tuple #[]) ∧ Pg w0 w' b (l ++ pgText s) := by
  have hsz := S_size s; have hw := u8of_wrap (s.length : Int); have HB := Lib.hid (pg_byte h (u8of (s.length : Nat)) (by omega)); have HW := Lib.hid (fun w (h : Pg w0 w b (l ++ [u8of (s.length : Nat)])) => pg_write h s (by simp; omega)); have HE := Lib.hid (show l ++ pgText s = (l ++ [u8of (s.length : Nat)]) ++ s by simp [pgText]); rw [HE.out]; clear h; go_enter Tryz.func182, Tryz.ntmps182; go_wp2_with fail; refine HB.out.mono ?_; rintro e w1 ⟨rfl, p1⟩; have HW1 := Lib.hid (HW.out w1 p1); clear p1; go_wp2_with fail; refine HW1.out.mono ?_; rintro e w2 ⟨rfl, p2⟩; have HP := Lib.hid p2; clear p2; go_wp2_with fail; go_end0; exact ⟨rfl, HP.out⟩
def numB (n : Int) (k : Nat) : List UInt8 := (List.range k).map fun j => u8of (n / (2 : Int) ^ min (8 * ((7 - j : Nat) : Int)).toNat 64)
theorem numB_snoc (n : Int) (k : Nat) : numB n (k + 1) = numB n k ++ [u8of (n / (2 : Int) ^ min (8 * ((7 - k : Nat) : Int)).toNat 64)] := by
  unfold numB; rw [List.range_succ, List.map_append]; rfl
theorem page_number {w0 w : World} {b : Nat} {l : List UInt8} (h : Pg w0 w b l) (n : Int) (h0 : 0 ≤ n) (h1 : n ≤ 1099511627776) (hlen : l.length + 8 ≤ 140737488355328) :
    Calls Tryz.prog 183 #[.pointer (some ⟨b, 0, none⟩), .int .i64 n] w fun e w' => e = .returned (.tuple #[]) ∧ Pg w0 w' b (l ++ numB n 8) := by
  have HH := Lib.hid h; clear h; go_enter Tryz.func183, Tryz.ntmps183; go_wp2_with fail
  go_loopg [4] 8 (fun g v wr => ∃ k : Nat, k ≤ 8 ∧ v = .int .i64 (7 - (k : Int)) ∧ g = 8 - k ∧ Pg w0 wr b (l ++ numB n k))
  case atStart => exact ⟨0, by omega, rfl, rfl, by simpa [numB] using HH.out⟩
  case round =>
    obtain ⟨k, hk, rfl, hg, hp⟩ := hrel; by_cases hlt : k < 8
    · have HS := Lib.hid (numB_snoc n k); obtain ⟨m, hm⟩ : ∃ m : Nat, 7 - k = m := ⟨_, rfl⟩
      have e1 : 7 - (k : Int) = (m : Nat) := by omega
      rw [hm] at HS; rw [e1]; have HM := Lib.hid hm; have f1 : decide ((m : Int) ≥ 0) = true := decide_eq_true (by omega); have wk := IntWalk.i64_in (8 * (m : Int)) (by omega); have wd := IntWalk.i64_in ((m : Int) - 1) (by omega); have wu := u8of_wrap (n / 2 ^ min (8 * (m : Int)).toNat 64); have q0 : 0 ≤ 8 * (m : Int) := by omega
      generalize u8of (n / 2 ^ min (8 * (m : Int)).toNat 64) = c at wu HS; have hln : (numB n k).length = k := by simp [numB]
      have HB := Lib.hid (pg_byte (hp.keep0 (Keep.refl [] wr).drew) c (by rw [List.length_append, hln]; omega)); clear e1 hm hp hln; go_wp2_with fail
      go_region_with (first
        | (go_at_call 181
           refine HB.out.mono ?_; rintro e w1 ⟨rfl, p1⟩)
        | fail)
      all_goals
        have HP := Lib.hid p1; clear p1; go_wp2_with fail
        go_roundg (8 - (k + 1))
      case measure => omega
      case rel => exact ⟨k + 1, by omega, by have := HM.out; rw [show ((m : Nat) : Int) - 1 = 7 - ((k + 1 : Nat) : Int) by omega], rfl, by rw [HS.out, ← List.append_assoc]; exact HP.out⟩
    · obtain rfl : k = 8 := by omega
      have HP := Lib.hid hp; clear hp; go_wp2_with fail; go_end0; exact ⟨rfl, HP.out⟩
end Go.Proofs.YtkghgaopcgcheaaGreatDoor
