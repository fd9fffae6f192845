/- Parts of the proof of StockReplays, in order. No conditions but those that each theorem states. -/
import Derived.Test.YtkghgaopcgcheaaGreatDoorYStockReplays0
import Derived.Deep.RegionHeld3
import Derived.Deep.Cut
import Derived.Deep.DeepCutAuto
import Derived.Deep.LoopGhost
import Derived.Shelf.SlGeneric
import Derived.Shelf.SlIter.Nil
import Derived.Ground.GgzProg
import Derived.Test.YtkghgaopcgcheaaGreatDoorYStockReplays19
set_option maxRecDepth 100000
set_option maxHeartbeats 16000000
set_option linter.unusedSimpArgs false
set_option linter.unusedVariables false
namespace Go.Proofs.YtkghgaopcgcheaaGreatDoor
open Go.RowKit Go.Maps
theorem ref20_ahead (a b : Tik) (AC BC : List Value) (ha : a.cells = AC) (hb : b.cells = BC) (w : World) :
    Calls Tryz.prog 117 #[.agg AC.toArray, .agg BC.toArray] w fun e w' => e = .returned (.bool (aheadT a b)) ∧ Keep [] w w' := by
  obtain ⟨n, hn⟩ : ∃ n, w.heap.size = n := ⟨_, rfl⟩
  have k1 := (Keep.refl [] w).alloc (.cells AC.toArray 51); have b1 := Blk.new w AC 51; have z1 := alloc_size w (.cells AC.toArray 51); rw [hn] at b1 z1; have k2 := k1.alloc (.cells BC.toArray 51); have b12 := b1.alloc (.cells BC.toArray 51); have b2 := Blk.new (w.alloc (.cells AC.toArray 51)) BC 51; rw [z1] at b2; go_enter Tryz.func117, Tryz.ntmps117
  go_upto_region 1 with fail
  (try simp only [hn]); generalize (w.alloc (.cells AC.toArray 51)).alloc (.cells BC.toArray 51) = w2 at k2 b12 b2 ⊢; have a0 := b12.get (show AC[0]? = _ by rw [← ha]; exact a.at0); have a1 := b12.get (show AC[1]? = _ by rw [← ha]; exact a.at1); have d0 := b2.get (show BC[0]? = _ by rw [← hb]; exact b.at0); have d1 := b2.get (show BC[1]? = _ by rw [← hb]; exact b.at1); have K2 := Lib.hid k2; have f1 := str_less a.repo b.repo; have f2 := str_less a.tag b.tag; have f3 : ((S a.repo).toList == (S b.repo).toList) = decide (a.repo = b.repo) := str_beq; have f4 : ((S a.repo).toList != (S b.repo).toList) = !decide (a.repo = b.repo) := by rw [bne, f3]
  clear k1 b1 z1 k2 b12 b2 ha hb hn; by_cases he : a.repo = b.repo
  · have HV := Lib.hid (show aheadT a b = bytesBefore a.tag b.tag by unfold aheadT; rw [he, WideAt.bytes_irrefl]; simp); rw [decide_eq_true he] at f3 f4; clear f1 he; go_wp2_with fail; go_ret; exact ⟨by rw [HV.out]; rfl, K2.out⟩
  · have HV := Lib.hid (show aheadT a b = bytesBefore a.repo b.repo by
      unfold aheadT; have : (a.repo == b.repo) = false := by simpa using he
      rw [this]; simp)
    rw [decide_eq_false he] at f3 f4; clear f2 he; go_wp2_with fail; go_ret; exact ⟨by rw [HV.out]; rfl, K2.out⟩
structure Dt (rv : Value) (budget : Int) (w : World) (u : Nat) (v : Value) (L : List Tik) : Prop where
  blk : Blk w u 40 [v, .int .i64 64, rv, .int .i64 budget]
  own : Own Tik.cells 38 0 51 w v L
  ne : v.ownBlock ≠ some u
def DoneT (rv : Value) (budget : Int) (w w' : World) (u : Nat) (v : Value) (L : List Tik) : Prop := ∃ v', Dt rv budget w' u v' L ∧ Keep [u] w w' ∧ ∀ g, v'.ownBlock = some g → v'.ownBlock = v.ownBlock ∨ w.heap.size ≤ g
section
variable {rv : Value} {budget : Int} {w : World} {u : Nat} {v : Value} {L : List Tik}
theorem Dt.keep {w' : World} {S : List Nat} (h : Dt rv budget w u v L) (k : Keep S w w') (hu : u ∉ S) (hv : ∀ g, v.ownBlock = some g → g ∉ S) : Dt rv budget w' u v L := ⟨k.blk h.blk hu, h.own.keep k hv, h.ne⟩
theorem Dt.keep0 {w' : World} (h : Dt rv budget w u v L) (k : Keep [] w w') : Dt rv budget w' u v L := h.keep k (by simp) (by simp)
theorem Dt.laid {w3 : World} {v3 : Value} {M : List Tik} (h : Dt rv budget w3 u v L) (k : Keep [] w w3) (hu : u < w.heap.size) (hown : Own Tik.cells 38 w.heap.size 51 w3 v3 M) : DoneT rv budget w (w3.setCell ⟨u, 0, none⟩ v3) u v M := by
  have hn : ∀ g, v3.ownBlock = some g → w.heap.size ≤ g := fun g hg => (hown.lt g hg).1
  have hks : Keep [u] w3 (w3.setCell ⟨u, 0, none⟩ v3) := (Keep.refl _ _).setCell _ _ (by simp); refine ⟨v3, ⟨h.blk.set 0 _, (hown.lower (Nat.zero_le _)).keep hks (fun g hg' => by simp; have := hn g hg'; omega), fun e => by have := hn u e; omega⟩, ?_, fun g hg' => .inr (hn g hg')⟩; exact (k.mono (by simp)).setCell _ _ (fun _ => by simp)
theorem ref20_Drop (w : World) (h : Dt rv budget w u v L) (hL : L.length ≤ 1000) (r g : List UInt8) :
    Calls Tryz.prog 77 #[.pointer (some ⟨u, 0, none⟩), .string (S r), .string (S g)] w fun e w' => (∃ b, e = .returned (.bool b)) ∧ DoneT rv budget w w' u v (dropT r g L) := by
  obtain ⟨aa, ca, rfl, hml⟩ := h.own.shape; obtain ⟨is, Hs⟩ := tikinfo'; have HU := Lib.hid h.blk.lt; have HD := Lib.hid (fun w' (k : Keep [] w w') => h.keep0 k); have kA := (Keep.refl [] w).alloc (.cells #[] 51); have hN := Own.none (base := w.heap.size) Tik.cells 38 51 w (Nat.le_refl _); clear h hml; go_enter Tryz.func77, Tryz.ntmps77
  go_upto_region 2 with fail
  generalize w.alloc (.cells #[] 51) = wA at kA hN ⊢; have HA := Lib.hid (And.intro kA hN); clear kA hN; have c0 := (HD.out wA HA.out.1).blk.get (k := 0) rfl; go_wp2_with fail; clear c0
  go_loopg [7, 8] L.length (fun g0 s7 s8 wr => ∃ k : Nat, s8 = .int .i64 (k : Nat) ∧ k ≤ L.length ∧ g0 = L.length - k ∧ Hid (Keep [] w wr) ∧ Hid (Own Tik.cells 38 w.heap.size 51 wr s7 (dropT r g (L.take k))))
  case atStart => exact ⟨0, rfl, Nat.zero_le _, rfl, Lib.hid HA.out.1, Lib.hid HA.out.2⟩
  case round =>
    obtain ⟨k, rfl, hk, hgk, HK, HV⟩ := hrel; have c0 := (HD.out wr HK.out).blk.get (k := 0) rfl; by_cases hlt : k < L.length
    · obtain ⟨y, hy⟩ : ∃ y, L[k]? = some y := ⟨_, List.getElem?_eq_getElem hlt⟩
      obtain ⟨ga, cp, hv, hr⟩ := own_elem (HD.out wr HK.out).own hy; cases hv; have e0 : wr.cell? ⟨ga, k * 38, none⟩ = some (.string (S y.repo)) := by have := hr 0 _ y.at0; rwa [Nat.add_zero] at this
      have e1 := hr 1 _ y.at1; have f1 : decide ((k : Int) < (L.length : Nat)) = true := decide_eq_true (by omega); have f1n : decide (k < L.length) = true := decide_eq_true hlt; have wk := IntWalk.i64_in ((k : Int) + 1) (by omega); have hln : (dropT r g (L.take k)).length ≤ k := Nat.le_trans (drop_len _ _ _) (by rw [List.length_take]; omega); have f3 : ((S y.repo).toList == (S r).toList) = decide (y.repo = r) := str_beq; have f4 : ((S y.repo).toList != (S r).toList) = !decide (y.repo = r) := by rw [bne, f3]
      have f5 : ((S y.tag).toList == (S g).toList) = decide (y.tag = g) := str_beq; have f6 : ((S y.tag).toList != (S g).toList) = !decide (y.tag = g) := by rw [bne, f5]
      have hdt : dropT r g (L.take (k + 1)) = if y.repo = r ∧ y.tag = g then dropT r g (L.take k) else dropT r g (L.take k) ++ [y] := by
        rw [List.take_add_one, hy]; exact drop_snoc r g _ y
      obtain ⟨YC, hYC⟩ : ∃ z, y.cells = z := ⟨_, rfl⟩
      have HYC := Lib.hid (show y.cells = YC ∧ YC.length = 38 from ⟨hYC, by rw [← hYC]; exact Tik.cells_length _⟩); rw [hYC] at hr; have HR := Lib.hid hr; by_cases hsame : y.repo = r ∧ y.tag = g
      · rw [decide_eq_true hsame.1] at f3 f4; rw [decide_eq_true hsame.2] at f5 f6; have HDT := Lib.hid (hdt.trans (if_pos hsame)); clear hdt hsame hr hYC hy; go_wp2_with fail
        go_roundg (L.length - (k + 1))
        case measure => omega
        case rel => exact ⟨k + 1, by go_num, by omega, rfl, HK, Lib.hid (by rw [HDT.out]; exact HV.out)⟩
      · have HDT := Lib.hid (hdt.trans (if_neg hsame))
        have hfin : Hid (y.repo ≠ r ∨ (y.repo = r ∧ y.tag ≠ g)) := Lib.hid (by
          by_cases e : y.repo = r
          · exact .inr ⟨e, fun e2 => hsame ⟨e, e2⟩⟩
          · exact .inl e)
        clear hdt hsame hr hYC hy; rcases hfin.out with hne | ⟨he, hne⟩
        · rw [decide_eq_false hne] at f3 f4; go_wp2_with (first | ((with_reducible refine gL 49 48 ?_); refine gl ga (k * 38) YC HR.out (by rw [HYC.out.2]; kernel_rfl) ?_; try simp only [sq]) | (refine wpList_buildOne rfl 28 51 (.tmp 49) rfl Hs (by omega) (by omega) Tryz.underlying28 YC HYC.out.2 (by rfl) ?_) | (at_builtin; go_must (refine wpList_append3 rfl _ _ 28 rfl is _ 104 Tryz.underlying28 Hs (by rfl) (by decide) Tik.cells_length Tik.one wr (HK.out.size) (by rfl) HV.out y _ HYC.out.1.symm _ (by rfl) (by show _ + 1 ≤ 9223372036854775807; omega) (by omega) ?_); intro v' w4 hown' hgr hat) | fail); have K4 := Lib.hid (show Keep [] w w4 from HK.out.trans' (Keep.grown' hgr (S := u7.ownBlock.toList) (fun k hk _ => by rw [hk]; simp)) (fun x hx hl => by simp at hx; have := (HV.out.lt x hx).1; omega)); have HV4 := Lib.hid hown'; clear hown' hgr hat; go_wp2_with fail
          go_roundg (L.length - (k + 1))
          case measure => omega
          case rel => exact ⟨k + 1, by go_num, by omega, rfl, K4, Lib.hid (by rw [HDT.out]; exact HV4.out)⟩
        · rw [decide_eq_true he] at f3 f4; rw [decide_eq_false hne] at f5 f6
          go_wp2_with (first | ((with_reducible refine gL 49 48 ?_); refine gl ga (k * 38) YC HR.out (by rw [HYC.out.2]; kernel_rfl) ?_; try simp only [sq]) | (refine wpList_buildOne rfl 28 51 (.tmp 49) rfl Hs (by omega) (by omega) Tryz.underlying28 YC HYC.out.2 (by rfl) ?_) | (at_builtin; go_must (refine wpList_append3 rfl _ _ 28 rfl is _ 104 Tryz.underlying28 Hs (by rfl) (by decide) Tik.cells_length Tik.one wr (HK.out.size) (by rfl) HV.out y _ HYC.out.1.symm _ (by rfl) (by show _ + 1 ≤ 9223372036854775807; omega) (by omega) ?_); intro v' w4 hown' hgr hat) | fail); have K4 := Lib.hid (show Keep [] w w4 from HK.out.trans' (Keep.grown' hgr (S := u7.ownBlock.toList) (fun k hk _ => by rw [hk]; simp)) (fun x hx hl => by simp at hx; have := (HV.out.lt x hx).1; omega)); have HV4 := Lib.hid hown'; clear hown' hgr hat; go_wp2_with fail
          go_roundg (L.length - (k + 1))
          case measure => omega
          case rel => exact ⟨k + 1, by go_num, by omega, rfl, K4, Lib.hid (by rw [HDT.out]; exact HV4.out)⟩
    · have hke : k = L.length := by omega
      have f1 : decide ((k : Int) < (L.length : Nat)) = false := decide_eq_false (by omega); subst hke; have f0 := (HD.out wr HK.out).blk.frozen 0; obtain ⟨a7, c7, rfl, _⟩ := HV.out.shape; have HF := Lib.hid (Dt.laid (HD.out wr HK.out) HK.out HU.out (by have := HV.out; rwa [List.take_length] at this)); clear HV; go_wp2_with fail; go_ret; exact ⟨⟨_, rfl⟩, HF.out⟩
end
end Go.Proofs.YtkghgaopcgcheaaGreatDoor
namespace Go.Proofs.YtkghgaopcgcheaaGreatDoor
open Go.Shelf Go.RowKit Go.Maps Go.Sort
def keysMap_ren : Go.Shelf.Ren := ⟨fun | 7 => 123 | 10 => 169 | n => n, fun | 23 => 87 | 26 => 9 | 3 => 125 | 28 => 185 | 0 => 0 | 27 => 184 | 33 => 165 | 4 => 4 | n => n, fun | n => n⟩
theorem keysMap : Go.Proofs.SlLaysZ.n7 Tryz.prog keysMap_ren := {
  mixed := by kernel_rfl
  f7 := ⟨Tryz.f123.name, by decide, Tryz.func123.trans (congrArg some (by kernel_rfl))⟩
  f10 := ⟨Tryz.f169.name, by decide, Tryz.func169.trans (congrArg some (by kernel_rfl))⟩
  t0 := Tryz.underlying0
  a0 := Tryz.isAgg0
  z0 := Tryz.sizeOf0
  v0 := Tryz.zeroValue0
  t4 := Tryz.underlying4
  a4 := Tryz.isAgg4
  z4 := Tryz.sizeOf4
  v4 := Tryz.zeroValue4
  t23 := Tryz.underlying87
  a23 := Tryz.isAgg87
  z23 := Tryz.sizeOf87
  v23 := Tryz.zeroValue87
  t26 := Tryz.underlying9
  a26 := Tryz.isAgg9
  z26 := Tryz.sizeOf9
  v26 := Tryz.zeroValue9
  t27 := Tryz.underlying184
  a27 := Tryz.isAgg184
  z27 := Tryz.sizeOf184
  v27 := Tryz.zeroValue184
  t28 := Tryz.underlying185
  a28 := Tryz.isAgg185
  z28 := Tryz.sizeOf185
  v28 := Tryz.zeroValue185
  t33 := Tryz.underlying165
  a33 := Tryz.isAgg165
  z33 := Tryz.sizeOf165
  v33 := Tryz.zeroValue165 }
def sortedStr_ren : Go.Shelf.Ren := ⟨fun | 6 => 122 | 8 => 167 | 9 => 168 | 11 => 197 | 13 => 199 | 12 => 198 | 23 => 236 | 24 => 237 | 14 => 227 | 15 => 228 | 16 => 229 | 17 => 230 | 18 => 231 | 19 => 232 | 20 => 233 | 21 => 234 | 22 => 235 | 25 => 252 | 26 => 253 | 27 => 254 | 28 => 255 | 29 => 256 | 30 => 226 | 31 => 268 | n => n, fun | 26 => 9 | 28 => 185 | 24 => 118 | 0 => 0 | 3 => 3 | 37 => 221 | 48 => 161 | 50 => 219 | 4 => 4 | 40 => 281 | 39 => 280 | 45 => 181 | 5 => 5 | 9 => 9 | 51 => 294 | 55 => 298 | 57 => 312 | 58 => 60 | 33 => 165 | n => n, fun | n => n⟩
theorem sortedStr : Go.Proofs.SlLaysZ.n6 Tryz.prog sortedStr_ren := {
  mixed := by kernel_rfl
  f6 := ⟨Tryz.f122.name, by decide, Tryz.func122.trans (congrArg some (by kernel_rfl))⟩
  f8 := ⟨Tryz.f167.name, by decide, Tryz.func167.trans (congrArg some (by kernel_rfl))⟩
  f11 := ⟨Tryz.f197.name, by decide, Tryz.func197.trans (congrArg some (by kernel_rfl))⟩
  t0 := Tryz.underlying0
  a0 := Tryz.isAgg0
  z0 := Tryz.sizeOf0
  v0 := Tryz.zeroValue0
  t24 := Tryz.underlying118
  a24 := Tryz.isAgg118
  z24 := Tryz.sizeOf118
  v24 := Tryz.zeroValue118
  t26 := Tryz.underlying9
  a26 := Tryz.isAgg9
  z26 := Tryz.sizeOf9
  v26 := Tryz.zeroValue9
  t28 := Tryz.underlying185
  a28 := Tryz.isAgg185
  z28 := Tryz.sizeOf185
  v28 := Tryz.zeroValue185
  i26 := by kernel_rfl }
theorem sortsStr (m : Nat) : AnyZ.SortsIn Tryz.prog sortedStr_ren Fence.wide m :=
  ⟨fun blk off cap ss W hH hblk hsz => callsIn_wide.2 (Tryz.slices_Sort_string blk off cap ss W hH hblk hsz),
   fun p cap W => callsIn_wide.2 (Tryz.slices_Sort_string_none p cap W)⟩
theorem maps_KeysN (mb : Option Nat) (W : World) : CallsIn Fence.wide 5 Tryz.prog 123 #[.map mb] W fun e w' => e = .returned (.func (.func 169) #[] #[.pointer (some ⟨W.heap.size, 0, none⟩)]) ∧ w' = W.alloc (.cells #[.map mb] 87) :=
  AnyZ.keys_in keysMap Fence.wide 5 trivial rfl mb W
theorem sorted_keys {H : Type} (b nn : Nat) (D0 : DataW H) (R : Value → Option (DataW H × List MemPlace)) (w : World) (hown : w.ownsMap Tryz.prog 9 R b nn D0) (hmax : Maps.size D0 ≤ maxLen) (hbytes : Maps.size D0 * 16 ≤ 140737488355328) :
    CallsIn Fence.wide 5 Tryz.prog 122 #[.func (.func 169) #[] #[.pointer (some ⟨w.heap.size, 0, none⟩)]] (w.alloc (.cells #[.map (some b)] 87)) fun e w' => ∃ (v : Value) (ss : List (List UInt8)), e = .returned v ∧ ss.Perm (strKeys D0) ∧
      w'.ownsRow (w.alloc (.cells #[.map (some b)] 87)).heap.size 9 1 v ss.length ((ss.mergeSort (fun x y => decide (x ≤ y))).map encStr) ∧ (v = .slice none 0 0 ↔ ss = []) ∧ Below (w.alloc (.cells #[.map (some b)] 87)).heap.size (w.alloc (.cells #[.map (some b)] 87)) w' := by
  have hbl := hown.lt
  have hseq : SeqGives Fence.wide 2 Tryz.prog 169 #[.pointer (some ⟨w.heap.size, 0, none⟩)] encStr (fun ss => ss.Perm (strKeys D0)) (Maps.size D0) (w.alloc (.cells #[.map (some b)] 87)) :=
    AnyZ.keys_gives (ρ := keysMap_ren) { keysMap with } Fence.wide _ trivial rfl (by omega) w.heap.size b nn D0 _ (by simp) (by simp) (by
      obtain ⟨es, clock, hb, Ft, hs, hD⟩ := hown; exact ⟨es, clock, (Below.heap_alloc _ _ b hbl).trans hb, Ft, hs, hD⟩)
  exact AnyZ.sorted_in sortedStr Fence.wide 5 trivial trivial trivial trivial rfl (by omega) (sortsStr _) (enters_of Tryz.func168 (by kernel_rfl) rfl) 169 #[.pointer (some ⟨w.heap.size, 0, none⟩)] trivial (enters_of Tryz.func169 (by kernel_rfl) rfl) _ _ hmax hbytes _ hseq
end Go.Proofs.YtkghgaopcgcheaaGreatDoor
namespace Go.Proofs.YtkghgaopcgcheaaGreatDoor
open Go.RowKit Go.Maps
theorem rows_str (L : List (List UInt8)) : rows strC L = L.map encStr := by
  induction L with
  | nil => rfl
  | cons c r ih =>
    show strC c ++ rows strC r = _; rw [ih]; rfl
theorem plank_Names {w : World} {d bm : Nat} {E : List Ent} {room used ops : Int} {off : Bool} (h : PkW w d bm E room used ops off) (hl : E.length ≤ 4000) :
    Calls Tryz.prog 70 #[.pointer (some ⟨d, 0, none⟩)] w fun e w' => ∃ v, e = .returned v ∧ Own strC 1 w.heap.size 9 w' v (E.map (·.name)) ∧ Keep [] w w' := by
  have hm := h.map; have hsz : Maps.size (datN (E.map Ent.nb)) = E.length := by rw [datN_size, List.length_map]
  have c0 : w.cell? ⟨d, 0, none⟩ = some (.map (some bm)) := h.blk.get rfl; have HS := Lib.hid (fun (ss : List (List UInt8)) (hp : ss.Perm (strKeys (datN (E.map Ent.nb)))) => hm.sorted hp); have HK := Lib.hid (fun mb W => maps_KeysN mb W); have HC := Lib.hid (sorted_keys bm _ (datN (E.map Ent.nb)) ptrR w hm (by rw [hsz]; unfold maxLen; omega) (by rw [hsz]; omega)); clear h hm; refine (callsIn_wide (n := 6)).1 ?_; have hfK : Fence.wide.fn 123 := trivial; have hfS : Fence.wide.fn 122 := trivial; refine callsIn_of_wp Tryz.func70 rfl trivial ?_ rfl; simp only [Tryz.ntmps70, List.size_toArray, List.length_cons, List.length_nil, Nat.reduceAdd, Nat.reduceSub, Array.replicate_succ, Array.replicate_zero, List.push_toArray, List.append_toArray, List.nil_append, List.cons_append]
  gi_wp2_with (first | (gi_at_call 123; refine (HK.out _ _).mono ?_; rintro e w' ⟨rfl, rfl⟩) | (gi_at_call 122; refine HC.out.mono ?_; rintro e w' ⟨v, ss, rfl, hS, hrow, hnil, hb⟩))
  go_ret; have e1 := HS.out ss hS
  have e2 : (ss.mergeSort fun x y => decide (x ≤ y)) = E.map (·.name) := by
    have : (E.map Ent.nb).map (·.1) = E.map (·.name) := by rw [List.map_map]; rfl
    rw [← this]; exact e1
  refine ⟨v, rfl, ?_, ?_⟩
  · have hlen : ss.length = (E.map (·.name)).length := by rw [← e2, List.length_mergeSort]
    rw [e2, ← rows_str, hlen] at hrow; have hO : Own strC 1 (w.alloc (.cells #[.map (some bm)] 87)).heap.size 9 w' v (E.map (·.name)) := hrow; exact hO.lower (by simp)
  · exact ((Keep.refl [] w).alloc _).trans (Keep.of_below hb [])
theorem rows_app (l t : List UInt8) : rows byteC l ++ Lib.strCells (S t) = rows byteC (l ++ t) := by
  rw [rows_bytes, rows_bytes]; unfold Lib.byteCells; rw [List.map_append]; rfl
theorem plank_Append {S0 : List Nat} (d : Nat) (K K' : Dsk) (s t : List UInt8) (w : World) (h : Pk S0 w d K) (hc : appendD s t K = some K') :
    Calls Tryz.prog 107 #[.pointer (some ⟨d, 0, none⟩), .string (S s), .string (S t)] w fun e w' => e = .returned (.int .i64 0) ∧ ∃ S', Pk S' w' d K' ∧ Grow S0 w S' w' := by
  obtain ⟨bm, E, ops, h1, h2, h3, h4, h5⟩ := h; unfold appendD at hc
  split at hc
  · cases hc
  rename_i b n hat
  split at hc
  case isFalse => cases hc
  case isTrue hok =>
  obtain ⟨⟨hoff, hn1, hn2⟩, hroom⟩ := hok; injection hc with hc
  subst hc; rw [h2] at hat; obtain ⟨x, hx, hxb, hxs, hxE, hxn⟩ := atD_some hat; have hxb : x.bytes = b := hxb; have hxs : x.safe = n := hxs; subst hxb hxs; rw [hoff] at h1; have hu := used_le h1.apt hx; rw [← h2] at hu; have hsz := S_size t; obtain ⟨i8, hi, hz, hsi, hby⟩ := u8_info; have HI := Lib.hid (And.intro hi (And.intro hz (And.intro hsi hby))); have HF := Lib.hid (plank_find h1 s x hx ⟨hn1, hn2⟩); obtain ⟨u, huu⟩ : ∃ u, usedF K.files = u := ⟨_, rfl⟩
  obtain ⟨room, hrr⟩ : ∃ r, K.room = r := ⟨_, rfl⟩
  rw [huu] at HF hroom h4 hu; rw [hrr] at HF hroom h4 h5
  have HA := Lib.hid (show ∀ w1 o, PkW w1 d bm E room (u : Nat) o false → Keep [d] w w1 → (w1.cell? ⟨d, 1, none⟩ = some (.int .i64 room) ∧ w1.cell? ⟨d, 2, none⟩ = some (.int .i64 (u : Nat)) ∧ w1.cell? ⟨x.blk, 0, none⟩ = some x.val ∧ w1.ownsRow 0 5 1 x.val x.bytes.length (rows byteC x.bytes)) ∧
      ∀ v' w2, w2.ownsRow 0 5 1 v' (x.bytes.length + (S t).size) (rows byteC x.bytes ++ Lib.strCells (S t)) → w1.grownBy w2 x.val.ownBlock → (v'.ownBlock = x.val.ownBlock ∨ ∃ g, v'.ownBlock = some g ∧ w1.heap.size ≤ g) →
        (∃ a n c, v' = .slice a n c) ∧ w2.frozen? ⟨x.blk, 0, none⟩ = false ∧ w2.cell? ⟨x.blk, 0, none⟩ = some x.val ∧ (w2.setCell ⟨x.blk, 0, none⟩ v').cell? ⟨d, 2, none⟩ = some (.int .i64 (u : Nat)) ∧ (w2.setCell ⟨x.blk, 0, none⟩ v').frozen? ⟨d, 2, none⟩ = false ∧
        ∃ S', Pk S' ((w2.setCell ⟨x.blk, 0, none⟩ v').setCell ⟨d, 2, none⟩ (.int .i64 ((u : Int) + (t.length : Nat)))) d { K with files := setD s (x.bytes ++ t, x.safe) K.files } ∧ Grow S0 w S' ((w2.setCell ⟨x.blk, 0, none⟩ v').setCell ⟨d, 2, none⟩ (.int .i64 ((u : Int) + (t.length : Nat)))) from fun w1 o p1 k1 => by
    have hf := p1.fil x hxE; refine ⟨⟨p1.blk.get rfl, p1.blk.get rfl, hf.blk.get rfl, hf.own⟩, fun v' w2 hown hg hob => ?_⟩; have kg := grown_keep hg; rw [hsz] at hown
    have hown2 : Own byteC 1 0 5 w2 v' (x.bytes ++ t) := by
      unfold Own; rw [← rows_app, List.length_append]; exact hown
    have hnb : x.blk ∉ x.val.ownBlock.toList := fun hm => hf.ne x.blk (by simpa using hm) rfl
    have b2 := kg.blk hf.blk hnb
    have hv'b : ∀ g, v'.ownBlock = some g → g ≠ x.blk := fun g hgg => by
      rcases hob with e | ⟨q, hq, hq2⟩
      · exact hf.ne g (by rw [← e]; exact hgg)
      · rw [hgg] at hq; injection hq with hq
        have := hf.blk.lt; omega
    let y : Ent := { x with val := v', bytes := x.bytes ++ t }
    obtain ⟨w3, hw3⟩ : ∃ z, w2.setCell ⟨x.blk, 0, none⟩ v' = z := ⟨_, rfl⟩
    have k23 : Keep [x.blk] w2 w3 := by rw [← hw3]; exact (Keep.refl _ _).setCell _ _ (by simp)
    have b3 : Blk w3 x.blk 128 [v', .int .i64 (x.safe : Nat)] := by rw [← hw3]; exact b2.set 0 v'
    have hy : FilW w3 y := ⟨b3, hown2.keep k23 (fun g hgg => by simpa using hv'b g hgg), hv'b, hf.name, by show (x.bytes ++ t).length ≤ _; rw [List.length_append]; omega, by show x.safe ≤ (x.bytes ++ t).length; rw [List.length_append]; have := hf.safe; omega⟩
    have k13 : Keep x.foot w1 w3 := (kg.mono (fun z hz _ => List.mem_cons_of_mem _ hz)).trans (k23.mono (fun z hz _ => by simp at hz; subst hz; exact List.mem_cons_self))
    have hfy : ∀ z ∈ y.foot, z ∈ x.foot ∨ w1.heap.size ≤ z := fun z hz => by
      rcases List.mem_cons.1 hz with rfl | hz
      · exact .inl List.mem_cons_self
      · have hz : v'.ownBlock = some z := by simpa [y] using hz
        rcases hob with e | ⟨q, hq, hq2⟩
        · exact .inl (List.mem_cons_of_mem _ (by rw [← e, hz]; simp))
        · rw [hz] at hq; injection hq with hq
          exact .inr (by omega)
    have p3 := p1.setFile (x := y) hxE rfl rfl hy k13 (fun z hz => hz) hfy; have k34 : Keep [d] w3 (w3.setCell ⟨d, 2, none⟩ (.int .i64 ((u : Int) + (t.length : Nat)))) := (Keep.refl _ _).setCell _ _ (by simp); have p4 := p3.nums k34 (p3.blk.set 2 _); have e1 : setD s (x.bytes ++ t, x.safe) K.files = (setE y E).map Ent.fil := by rw [h2, setE_fil, ← hxn]
    have e2 := used_set p1.apt (x := y) hxE rfl
    have e3 : (usedF ((setE y E).map Ent.fil) : Int) = (u : Int) + (t.length : Nat) := by
      rw [← huu, h2]; have : y.bytes.length = x.bytes.length + t.length := List.length_append; omega
    obtain ⟨sa, sc, sv, _⟩ := hown2.shape; refine ⟨⟨sa, _, sc, sv⟩, b2.frozen 0, b2.get rfl, ?_, ?_, ?_⟩
    · rw [hw3]; exact p3.blk.get rfl
    · rw [hw3]; exact p3.blk.frozen 2
    · rw [hw3]; refine Pk.after (E := E) (E' := setE y E) (ops := o) (T := d :: x.foot) h3 ?_ e1 (((k1.mono (by simp)).trans (k13.mono (fun z hz _ => List.mem_cons_of_mem _ hz))).trans (k34.mono (by simp))) ?_ (fun z hz => (setE_foot (w := w1) (x := y) hxE hfy z hz).imp id (fun h => Nat.le_trans k1.size h)) ?_
      · show PkW _ d bm _ K.room (usedF _ : Nat) o K.off; rw [e1, e3, hoff, hrr]; exact p4
      · intro z hz; rcases List.mem_cons.1 hz with rfl | hz
        · exact mem_footD.2 (.inl rfl)
        · exact mem_footE hxE z hz
      · show ((usedF _ : Nat) : Int) ≤ K.room ∧ K.room ≤ _; rw [e1, e3, hrr]; exact ⟨by omega, h5⟩)
  have wk := IntWalk.i64_in (room - (u : Int)) (by omega); have wk2 := IntWalk.i64_in ((u : Int) + (t.length : Nat)) (by omega); have f1 : decide ((t.length : Int) > room - (u : Int)) = false := decide_eq_false (by omega); have hle : x.bytes.length ≤ 4194304 := (h1.fil x hxE).len; have hle2 : t.length ≤ 4194304 := by omega
  clear h1 h2 h3 h4 h5 hat hx hoff hu huu hrr hroom hi hz hsi hby; go_enter Tryz.func107, Tryz.ntmps107; go_wp2_with fail; refine HF.out.mono ?_; rintro e w1 ⟨rfl, ⟨o, p1⟩, k1⟩; have HP := Lib.hid (And.intro p1 k1); obtain ⟨⟨c1, c2, c3, _⟩, _⟩ := HA.out w1 o p1 k1; clear p1 k1 HF; go_wp2_with fail; go_quiet (fail); obtain ⟨wz, hz⟩ : ∃ z, w1.drewN nq = z := ⟨_, rfl⟩
  rw [hz]; have HQ := Lib.hid (show PkW wz d bm E room (u : Nat) o false ∧ Keep [d] w wz from by rw [← hz]; exact ⟨HP.out.1.keep0 ((Keep.refl _ _).drewN _), HP.out.2.drewN _⟩); clear hz c1 c2 c3; obtain ⟨⟨c1, c2, c3, hown⟩, hall⟩ := HA.out wz o HQ.out.1 HQ.out.2; have HALL := Lib.hid hall; have HOWN := Lib.hid hown; clear hall hown HA HP
  go_wp2_with (first
    | (at_builtin; refine wpList_append_string_at rfl _ _ 126 9 rfl 0 5 i8 Tryz.underlying126 Tryz.underlying9 HI.out.1 HI.out.2.1 HI.out.2.2.1 HI.out.2.2.2 x.val _ _ rfl HOWN.out (S t) rfl (by rw [hsz]; show _ ≤ 9223372036854775807; omega) (by rw [hsz]; omega) (Nat.zero_le _) ?_
       intro v' w2 hw2 hg2 hb2; obtain ⟨⟨sa, sn, sc, sv⟩, f0, c4, c5, f5, hr⟩ := HALL.out v' w2 hw2 hg2 hb2; clear hw2 hg2 hb2; subst sv; have HR := Lib.hid hr; clear hr HALL HOWN)
    | fail)
  go_ret; exact ⟨rfl, HR.out⟩
theorem plank_On {S0 : List Nat} (d : Nat) (K : Dsk) (w : World) (h : Pk S0 w d K) (hoff : K.off = true) (hl : K.files.length ≤ 4000) (hsafe : ∀ p ∈ K.files, p.2.2 = p.2.1.length) :
    Calls Tryz.prog 35 #[.pointer (some ⟨d, 0, none⟩), .slice none 0 0] w fun e w' => e = .returned (.tuple #[]) ∧ ∃ S', Pk S' w' d { K with off := false } ∧ Grow S0 w S' w' := by
  obtain ⟨bm, E, ops, h1, h2, h3, h4, h5⟩ := h; rw [h2] at hsafe hl; rw [List.length_map] at hl; rw [hoff] at h1; have hsafe' : ∀ e ∈ E, e.safe = e.bytes.length := fun e he => hsafe e.fil (List.mem_map.2 ⟨e, he, rfl⟩)
  have c4 := h1.blk.get (k := 4) rfl; have f4 := h1.blk.frozen 4; obtain ⟨w1, hw1⟩ : ∃ z, w.setCell ⟨d, 4, none⟩ (.bool false) = z := ⟨_, rfl⟩
  have k1 : Keep [d] w w1 := by rw [← hw1]; exact (Keep.refl _ _).setCell _ _ (by simp)
  have p1 : PkW w1 d bm E K.room (usedF K.files : Nat) ops false := h1.nums k1 (by rw [← hw1]; exact h1.blk.set 4 _); have HN := Lib.hid (plank_Names p1 hl); have HP := Lib.hid p1
  have HA := Lib.hid (show ∀ wz, Keep [] w1 wz → ∃ S', Pk S' wz d { K with off := false } ∧ Grow S0 w S' wz from fun wz kz =>
    Pk.after (E := E) (E' := E) (ops := ops) (T := [d]) (K := { K with off := false }) h3 (p1.keep0 kz) h2 (k1.trans (kz.mono (by simp))) (fun t ht => by simp at ht; subst ht; exact mem_footD.2 (.inl rfl)) (fun t ht => .inl ht) ⟨h4, h5⟩)
  have HE := Lib.hid (show ∀ wz, Keep [] w1 wz → ∀ x ∈ E, wz.cell? ⟨d, 0, none⟩ = some (.map (some bm)) ∧ (Instr.lookup 87 (.map (some bm)) (.string (S x.name)) false).run Tryz.prog wz = .ok (.pointer (some ⟨x.blk, 0, none⟩)) wz ∧
      (∃ a c, wz.cell? ⟨x.blk, 0, none⟩ = some (.slice a x.bytes.length c)) ∧ wz.cell? ⟨x.blk, 1, none⟩ = some (.int .i64 (x.bytes.length : Nat)) from fun wz kz x hx => by
    have pz := p1.keep0 kz; have hf := pz.fil x hx; have a1 := pz.look x.name (by have := hf.name; unfold maxLen; omega)
    have hat : atE x.name E = some x := by
      cases he : atE x.name E with
      | none => exact absurd rfl (atE_none he x hx)
      | some y =>
        obtain ⟨hy, hn⟩ := atE_mem he; by_cases hyx : y = x
        · rw [hyx]
        · exact absurd hn (List.Pairwise.forall_of_forall_of_flip (R := fun a b => a ≠ b → a.name ≠ b.name) (l := E) (fun z _ hz => absurd rfl hz) (List.Pairwise.imp (S := fun a b => a ≠ b → a.name ≠ b.name) (fun hab _ => hab.1) pz.apt) (List.Pairwise.imp (S := flip fun a b => a ≠ b → a.name ≠ b.name) (fun hab _ e => hab.1 e.symm) pz.apt) hy hx hyx)
    rw [hat] at a1; obtain ⟨a, c, hv, _⟩ := hf.own.shape; refine ⟨a1.1, a1.2, ⟨a, c, by rw [← hv]; exact hf.blk.get rfl⟩, ?_⟩; rw [← hsafe' x hx]; exact hf.blk.get rfl)
  clear h1 h2 h3 h4 h5 hsafe hsafe' hoff p1 k1; go_enter Tryz.func35, Tryz.ntmps35; go_wp2_with fail; (try rw [hw1]); clear hw1; refine HN.out.mono ?_; rintro e w2 ⟨v, rfl, hO, k2⟩; obtain ⟨a, c, rfl, hml⟩ := hO.shape; rw [List.length_map] at hml ⊢; have hml' : E.length ≤ 9223372036854775807 := hml; have HS := Lib.hid (hO.sl strC_length); have K2 := Lib.hid k2; clear hO k2 c4 f4 HN; go_wp2_with fail
  go_loopg [23] E.length (fun g i wr => ∃ k : Nat, i = .int .i64 (k : Nat) ∧ k ≤ E.length ∧ g = E.length - k ∧ Hid (Keep [] w2 wr))
  case atStart => exact ⟨0, rfl, Nat.zero_le _, rfl, Lib.hid (Keep.refl _ _)⟩
  case round =>
    obtain ⟨k, rfl, hk, hg, KR⟩ := hrel; by_cases hlt : k < E.length
    · obtain ⟨x, hx⟩ : ∃ x, E[k]? = some x := ⟨_, List.getElem?_eq_getElem hlt⟩
      have hc : (E.map (·.name))[k]? = some x.name := by rw [List.getElem?_map, hx]; rfl
      obtain ⟨b, off, cap', hv, h1, h2, h3⟩ := HS.out.cell hc; cases hv
      have c1 : wr.cell? ⟨b, off + k, none⟩ = some (.string (S x.name)) := by
        have := h3 0 (by omega); rw [Nat.mul_one, Nat.add_zero] at this; exact KR.out.load this
      obtain ⟨c0, hlk, ⟨sa, sc, c2⟩, c3⟩ := HE.out wr (K2.out.trans KR.out) x (List.mem_of_getElem? hx); have wk := IntWalk.i64_in ((k : Int) + 1) (by omega); have f1 : decide ((k : Int) < (E.length : Nat)) = true := decide_eq_true (by omega); clear hc hx h1 h2 h3; go_wp2_with fail; go_quiet (fail); go_wp2_with fail
      go_roundg (E.length - (k + 1))
      case measure => omega
      case rel => exact ⟨k + 1, rfl, by omega, rfl, Lib.hid (KR.out.drewN _)⟩
    · obtain rfl : k = E.length := by omega
      go_wp2_with fail; go_end0; exact ⟨rfl, HA.out _ (K2.out.trans KR.out)⟩
def dN : List UInt8 := [100, 105, 97, 114, 121]
def dW : List UInt8 := [100, 105, 97, 114, 121, 46, 110, 101, 119]
theorem pk_Size {S0 : List Nat} (d : Nat) (K : Dsk) (s : List UInt8) (w : World) (h : Pk S0 w d K) (hoff : K.off = false) (hs : s.length ≤ 1000) :
    Calls Tryz.prog 84 #[.pointer (some ⟨d, 0, none⟩), .string (S s)] w fun e w' => e = .returned (.int .i64 (sizeD s K)) ∧ Keep [] w w' := by
  obtain ⟨bm, E, ops, h1, h2, _⟩ := h; rw [hoff] at h1; have := plank_Size h1 s hs
  have e : sizeD s K = match atE s E with | none => -1 | some x => (x.bytes.length : Nat) := by
    unfold sizeD; rw [h2, atE_fil]; cases atE s E <;> rfl
  rw [e]; exact this
theorem pk_Names {S0 : List Nat} (d : Nat) (K : Dsk) (w : World) (h : Pk S0 w d K) (hl : K.files.length ≤ 4000) :
    Calls Tryz.prog 70 #[.pointer (some ⟨d, 0, none⟩)] w fun e w' => ∃ v, e = .returned v ∧ Own strC 1 w.heap.size 9 w' v (K.files.map (·.1)) ∧ Keep [] w w' := by
  obtain ⟨bm, E, ops, h1, h2, _⟩ := h; rw [h2] at hl ⊢; rw [List.length_map] at hl; have := plank_Names h1 hl; rw [List.map_map]; exact this
theorem Grow.then {A B : List Nat} {w w1 w2 : World} (h : Grow A w B w1) (k : Keep [] w1 w2) : Grow A w B w2 := h.trans (Grow.of k)
theorem Grow.pre {A B : List Nat} {w w1 w2 : World} (k : Keep [] w w1) (h : Grow A w1 B w2) : Grow A w B w2 := (Grow.of k).trans h
def sweepD (K : Dsk) : Option Dsk := if sizeD dW K < 0 then some K else deleteD dW K
theorem deleteD_off {s : List UInt8} {K K' : Dsk} (h : deleteD s K = some K') : K'.off = K.off := by
  unfold deleteD at h
  split at h
  · injection h with h; rw [← h]
  · cases h
theorem createD_off {s : List UInt8} {K K' : Dsk} (h : createD s K = some K') : K'.off = K.off := by
  unfold createD at h
  split at h
  · injection h with h; rw [← h]
  · cases h
theorem syncD_off {s : List UInt8} {K K' : Dsk} (h : syncD s K = some K') : K'.off = K.off := by
  unfold syncD at h
  split at h
  · cases h
  · split at h
    · injection h with h; rw [← h]
    · cases h
theorem appendD_off {s t : List UInt8} {K K' : Dsk} (h : appendD s t K = some K') : K'.off = K.off := by
  unfold appendD at h
  split at h
  · cases h
  · split at h
    · injection h with h; rw [← h]
    · cases h
theorem sweepD_off {K K' : Dsk} (h : sweepD K = some K') : K'.off = K.off := by
  unfold sweepD at h
  split at h
  · injection h with h; rw [← h]
  · exact deleteD_off h
theorem diary_sweep {S0 : List Nat} (d : Nat) (K K' : Dsk) (w : World) (h : Pk S0 w d K) (hoff : K.off = false) (hc : sweepD K = some K') :
    Calls Tryz.prog 134 #[.pointer (some ⟨d, 0, none⟩)] w fun e w' => e = .returned (.int .i64 0) ∧ ∃ S', Pk S' w' d K' ∧ Grow S0 w S' w' := by
  have HSZ := Lib.hid (show Calls Tryz.prog 84 #[.pointer (some ⟨d, 0, none⟩), .string ⟨#[100, 105, 97, 114, 121, 46, 110, 101, 119]⟩] w fun e w' => e = .returned (.int .i64 (sizeD dW K)) ∧ Keep [] w w' from pk_Size d K dW w h hoff (by decide)); have HP := Lib.hid (fun w' (k : Keep [] w w') => h.keep0 k); obtain ⟨z, hz⟩ : ∃ z, sizeD dW K = z := ⟨_, rfl⟩
  unfold sweepD at hc; rw [hz] at hc HSZ; by_cases hz0 : z < 0
  · rw [if_pos hz0] at hc; injection hc with hc
    subst hc; have f1 : decide (z < 0) = true := decide_eq_true hz0; clear h hz hz0; go_enter Tryz.func134, Tryz.ntmps134; go_wp2_with fail; refine HSZ.out.mono ?_; rintro e w1 ⟨rfl, k1⟩; have K1 := Lib.hid k1; clear k1; go_wp2_with fail; go_ret; exact ⟨rfl, S0, HP.out _ K1.out, Grow.of K1.out⟩
  · rw [if_neg hz0] at hc; have f1 : decide (z < 0) = false := decide_eq_false hz0; have HDE := Lib.hid (fun w' (k : Keep [] w w') => show Calls Tryz.prog 86 #[.pointer (some ⟨d, 0, none⟩), .string ⟨#[100, 105, 97, 114, 121, 46, 110, 101, 119]⟩] w' fun e w'' => e = .returned (.int .i64 0) ∧ ∃ S', Pk S' w'' d K' ∧ Grow S0 w' S' w'' from plank_Delete d K K' dW w' (h.keep0 k) hc); clear h hz hz0 hc; go_enter Tryz.func134, Tryz.ntmps134; go_wp2_with fail; refine HSZ.out.mono ?_; rintro e w1 ⟨rfl, k1⟩; have K1 := Lib.hid k1; clear k1; go_wp2_with fail; refine (HDE.out _ K1.out).mono ?_; rintro e w2 ⟨rfl, S', p, g⟩; have HR := Lib.hid (And.intro p (Grow.pre K1.out g)); clear p g; go_wp2_with fail; go_ret; exact ⟨rfl, S', HR.out⟩
def makeD (K : Dsk) : Option Dsk := if sizeD dN K < 0 then createD dN K else some K
def loadD (K : Dsk) : Option (List UInt8 × Dsk) := (sweepD K).bind fun K1 => (makeD K1).bind fun K2 => (readD dN K2).bind fun b => (syncD dN K2).map fun K3 => (b, K3)
theorem read_size {s l : List UInt8} {K : Dsk} (h : readD s K = some l) : sizeD s K = (l.length : Nat) := by
  unfold readD at h; unfold sizeD
  cases ha : atD s K.files with
  | none => rw [ha] at h; cases h
  | some p =>
    rw [ha] at h; obtain ⟨b, n⟩ := p; simp only at h ⊢
    split at h
    · injection h with h; rw [h]
    · cases h
theorem diary_load {S0 : List Nat} (d : Nat) (K K' : Dsk) (b : List UInt8) (w : World) (h : Pk S0 w d K) (hoff : K.off = false) (hc : loadD K = some (b, K')) :
    Calls Tryz.prog 81 #[.pointer (some ⟨d, 0, none⟩)] w fun e w' => e = .returned (.tuple #[.string (S b), .int .i64 0]) ∧ ∃ S', Pk S' w' d K' ∧ Grow S0 w S' w' := by
  unfold loadD at hc; obtain ⟨K1, hs, hc⟩ := Option.bind_eq_some_iff.1 hc; obtain ⟨K2, hm, hc⟩ := Option.bind_eq_some_iff.1 hc; obtain ⟨b', hr, hc⟩ := Option.bind_eq_some_iff.1 hc; obtain ⟨K3, hy, hc⟩ := Option.map_eq_some_iff.1 hc; cases hc; have o1 := sweepD_off hs; rw [hoff] at o1; have HSW := Lib.hid (diary_sweep d K K1 w h hoff hs); have HSZ := Lib.hid (fun (S0 : List Nat) (K0 : Dsk) (ho : K0.off = false) w' (p : Pk S0 w' d K0) => show Calls Tryz.prog 84 #[.pointer (some ⟨d, 0, none⟩), .string ⟨#[100, 105, 97, 114, 121]⟩] w' fun e w'' => e = .returned (.int .i64 (sizeD dN K0)) ∧ Keep [] w' w'' from pk_Size d K0 dN w' p ho (by decide)); have HRD := Lib.hid (fun (S0 : List Nat) w' (p : Pk S0 w' d K2) => show Calls Tryz.prog 135 #[.pointer (some ⟨d, 0, none⟩), .string ⟨#[100, 105, 97, 114, 121]⟩, .int .i64 0, .int .i64 (b.length : Nat)] w' fun e w'' => e = .returned (.tuple #[.string (S b), .int .i64 0]) ∧ ∃ S', Pk S' w'' d K2 ∧ Grow S0 w' S' w'' from plank_Read d K2 dN b w' p hr); have HSY := Lib.hid (fun (S0 : List Nat) w' (p : Pk S0 w' d K2) => show Calls Tryz.prog 136 #[.pointer (some ⟨d, 0, none⟩), .string ⟨#[100, 105, 97, 114, 121]⟩] w' fun e w'' => e = .returned (.int .i64 0) ∧ ∃ S', Pk S' w'' d K' ∧ Grow S0 w' S' w'' from plank_Sync d K2 K' dN w' p hy); have hrz := read_size hr; obtain ⟨z, hz⟩ : ∃ z, sizeD dN K1 = z := ⟨_, rfl⟩
  have HS1 := Lib.hid (fun (S0 : List Nat) w' (p : Pk S0 w' d K1) => HSZ.out S0 K1 o1 w' p); rw [hz] at HS1; unfold makeD at hm; rw [hz] at hm; have hbl : b.length ≤ 4194304 ∨ True := .inr trivial; by_cases hz0 : z < 0
  · rw [if_pos hz0] at hm; have o2 := createD_off hm; rw [o1] at o2; have HS2 := Lib.hid (fun (S0 : List Nat) w' (p : Pk S0 w' d K2) => HSZ.out S0 K2 o2 w' p); rw [hrz] at HS2; have HCR := Lib.hid (fun (S0 : List Nat) w' (p : Pk S0 w' d K1) => show Calls Tryz.prog 103 #[.pointer (some ⟨d, 0, none⟩), .string ⟨#[100, 105, 97, 114, 121]⟩] w' fun e w'' => e = .returned (.int .i64 0) ∧ ∃ S', Pk S' w'' d K2 ∧ Grow S0 w' S' w'' from plank_Create d K1 K2 dN w' p hm); have f1 : decide (z < 0) = true := decide_eq_true hz0; clear h hoff hs hm hr hy o1 o2 HSZ hrz hz hz0 hbl; go_enter Tryz.func81, Tryz.ntmps81; go_wp2_with fail; refine HSW.out.mono ?_; rintro e w1 ⟨rfl, S1, p1, g1⟩; have HP1 := Lib.hid (And.intro p1 g1); clear p1 g1; go_wp2_with fail; refine (HS1.out _ _ HP1.out.1).mono ?_; rintro e w2 ⟨rfl, k2⟩; have HP2 := Lib.hid (show Pk S1 w2 d K1 ∧ Grow S0 w S1 w2 from ⟨HP1.out.1.keep0 k2, HP1.out.2.then k2⟩); clear k2 HP1; go_wp2_with fail; refine (HCR.out _ _ HP2.out.1).mono ?_; rintro e w3 ⟨rfl, S3, p3, g3⟩; have HP3 := Lib.hid (show Pk S3 w3 d K2 ∧ Grow S0 w S3 w3 from ⟨p3, HP2.out.2.trans g3⟩); clear p3 g3 HP2; go_wp2_with fail; refine (HS2.out _ _ HP3.out.1).mono ?_; rintro e w4 ⟨rfl, k4⟩; have HP4 := Lib.hid (show Pk S3 w4 d K2 ∧ Grow S0 w S3 w4 from ⟨HP3.out.1.keep0 k4, HP3.out.2.then k4⟩); clear k4 HP3; go_wp2_with fail; refine (HRD.out _ _ HP4.out.1).mono ?_; rintro e w5 ⟨rfl, S5, p5, g5⟩; have HP5 := Lib.hid (show Pk S5 w5 d K2 ∧ Grow S0 w S5 w5 from ⟨p5, HP4.out.2.trans g5⟩); clear p5 g5 HP4; go_wp2_with fail; refine (HSY.out _ _ HP5.out.1).mono ?_; rintro e w6 ⟨rfl, S6, p6, g6⟩; have HP6 := Lib.hid (show Pk S6 w6 d K' ∧ Grow S0 w S6 w6 from ⟨p6, HP5.out.2.trans g6⟩); clear p6 g6 HP5; go_wp2_with fail; go_ret2; exact ⟨rfl, S6, HP6.out⟩
  · rw [if_neg hz0] at hm; injection hm with hm
    subst hm; have HS2 := Lib.hid (fun (S0 : List Nat) w' (p : Pk S0 w' d K1) => HSZ.out S0 K1 o1 w' p); rw [hrz] at HS2; have f1 : decide (z < 0) = false := decide_eq_false hz0; clear h hoff hs hr hy o1 HSZ hrz hz hz0 hbl; go_enter Tryz.func81, Tryz.ntmps81; go_wp2_with fail; refine HSW.out.mono ?_; rintro e w1 ⟨rfl, S1, p1, g1⟩; have HP1 := Lib.hid (And.intro p1 g1); clear p1 g1; go_wp2_with fail; refine (HS1.out _ _ HP1.out.1).mono ?_; rintro e w2 ⟨rfl, k2⟩; have HP3 := Lib.hid (show Pk S1 w2 d K1 ∧ Grow S0 w S1 w2 from ⟨HP1.out.1.keep0 k2, HP1.out.2.then k2⟩); clear k2 HP1; go_wp2_with fail; refine (HS2.out _ _ HP3.out.1).mono ?_; rintro e w4 ⟨rfl, k4⟩; have HP4 := Lib.hid (show Pk S1 w4 d K1 ∧ Grow S0 w S1 w4 from ⟨HP3.out.1.keep0 k4, HP3.out.2.then k4⟩); clear k4 HP3; go_wp2_with fail; refine (HRD.out _ _ HP4.out.1).mono ?_; rintro e w5 ⟨rfl, S5, p5, g5⟩; have HP5 := Lib.hid (show Pk S5 w5 d K1 ∧ Grow S0 w S5 w5 from ⟨p5, HP4.out.2.trans g5⟩); clear p5 g5 HP4; go_wp2_with fail; refine (HSY.out _ _ HP5.out.1).mono ?_; rintro e w6 ⟨rfl, S6, p6, g6⟩; have HP6 := Lib.hid (show Pk S6 w6 d K' ∧ Grow S0 w S6 w6 from ⟨p6, HP5.out.2.trans g6⟩); clear p6 g6 HP5; go_wp2_with fail; go_ret2; exact ⟨rfl, S6, HP6.out⟩
def LgB (w : World) (l d : Nat) (n sure : Nat) (size : Int) (sick : Bool) : Prop := Blk w l 150 [.pointer (some ⟨d, 0, none⟩), .int .i64 (n : Nat), .int .i64 (sure : Nat), .int .i64 size, .bool sick]
def Lg (S : List Nat) (w : World) (l d : Nat) (K : Dsk) (n sure : Nat) (sick : Bool) : Prop := Pk S w d K ∧ (∃ size, LgB w l d n sure size sick) ∧ l ∉ S
theorem Lg.op {S S' : List Nat} {w w' : World} {l d n sure : Nat} {sick : Bool} {K K' : Dsk} (h : Lg S w l d K n sure sick) (p : Pk S' w' d K') (g : Grow S w S' w') : Lg S' w' l d K' n sure sick ∧ Grow (l :: S) w (l :: S') w' := by
  obtain ⟨h1, ⟨size, h2⟩, h3⟩ := h; have hlt := h2.lt; refine ⟨⟨p, ⟨size, g.1.blk h2 h3⟩, fun hm => ?_⟩, g.1.mono (fun x hx _ => List.mem_cons_of_mem _ hx), fun k hk => ?_⟩
  · rcases g.2 l hm with e | e
    · exact h3 e
    · omega
  · rcases List.mem_cons.1 hk with rfl | hk
    · exact .inl List.mem_cons_self
    · exact (g.2 k hk).imp (List.mem_cons_of_mem _) id
theorem Lg.nums {S : List Nat} {w w' : World} {l d n sure : Nat} {sick : Bool} {K : Dsk} (h : Lg S w l d K n sure sick) (k : Keep [l] w w') {n' sure' : Nat} {size' : Int} {sick' : Bool} (hb : LgB w' l d n' sure' size' sick') : Lg S w' l d K n' sure' sick' ∧ Grow (l :: S) w (l :: S) w' :=
  ⟨⟨h.1.keep k (fun x hx => by simp; rintro rfl; exact h.2.2 hx), ⟨size', hb⟩, h.2.2⟩, k.mono (by simp), fun _ h => .inl h⟩
theorem Lg.keep0 {S : List Nat} {w w' : World} {l d n sure : Nat} {sick : Bool} {K : Dsk} (h : Lg S w l d K n sure sick) (k : Keep [] w w') : Lg S w' l d K n sure sick := by
  obtain ⟨h1, ⟨size, h2⟩, h3⟩ := h; exact ⟨h1.keep0 k, ⟨size, k.blk h2 (by simp)⟩, h3⟩
theorem diary_Len {S : List Nat} (l d n sure : Nat) (sick : Bool) (K : Dsk) (w : World) (h : Lg S w l d K n sure sick) : Calls Tryz.prog 101 #[.pointer (some ⟨l, 0, none⟩)] w fun e w' => e = .returned (.int .i64 (n : Nat)) ∧ w = w' := by
  obtain ⟨_, ⟨size, h2⟩, _⟩ := h; have c1 : w.cell? ⟨l, 1, none⟩ = some (.int .i64 (n : Nat)) := h2.get rfl; clear h2; go_enter Tryz.func101, Tryz.ntmps101; go_wp2_with fail; go_ret; exact ⟨rfl, rfl⟩
theorem diary_Sick {S : List Nat} (l d n sure : Nat) (sick : Bool) (K : Dsk) (w : World) (h : Lg S w l d K n sure sick) : Calls Tryz.prog 154 #[.pointer (some ⟨l, 0, none⟩)] w fun e w' => e = .returned (.bool sick) ∧ w = w' := by
  obtain ⟨_, ⟨size, h2⟩, _⟩ := h; have c4 : w.cell? ⟨l, 4, none⟩ = some (.bool sick) := h2.get rfl; clear h2; go_enter Tryz.func154, Tryz.ntmps154; go_wp2_with fail; go_ret; exact ⟨rfl, rfl⟩
theorem diary_fail {S : List Nat} (l d n sure : Nat) (K : Dsk) (w : World) (h : Lg S w l d K n sure false) : Calls Tryz.prog 189 #[.pointer (some ⟨l, 0, none⟩), .int .i64 0] w fun e w' => e = .returned (.int .i64 0) ∧ Lg S w' l d K n sure false ∧ Grow (l :: S) w (l :: S) w' := by
  obtain ⟨size, h2⟩ := h.2.1; have c4 : w.cell? ⟨l, 4, none⟩ = some (.bool false) := h2.get rfl; have f4 := h2.frozen 4; have HR := Lib.hid (h.nums (w' := w.setCell ⟨l, 4, none⟩ (.bool false)) ((Keep.refl _ _).setCell _ _ (by simp)) (h2.set 4 (.bool false))); clear h h2; go_enter Tryz.func189, Tryz.ntmps189; go_wp2_with fail; go_ret; exact ⟨rfl, HR.out⟩
theorem diary_Add {S0 : List Nat} (l d n sure : Nat) (K K' : Dsk) (x : Slp) (XC : List Value) (hx : x.cells = XC) (w : World) (h : Lg S0 w l d K n sure false) (hi : slipIn x) (hg : goodS x = true) (ht : NibT w) (hn : n ≤ 1000000) (hc : appendD dN (slipW x) K = some K') :
    Calls Tryz.prog 155 #[.pointer (some ⟨l, 0, none⟩), .agg XC.toArray] w fun e w' => e = .returned (.int .i64 0) ∧ ∃ S', Lg S' w' l d K' (n + 1) sure false ∧ Grow (l :: S0) w (l :: S') w' := by
  obtain ⟨n0, hn0⟩ : ∃ n, w.heap.size = n := ⟨_, rfl⟩
  have k1 := (Keep.refl [] w).alloc (.cells XC.toArray 27); have b1 := Blk.new w XC 27; rw [hn0] at b1; have HXL := Lib.hid (show XC.length = 38 by rw [← hx]; exact Slp.cells_length x); have hwr := fun w' (k : Keep [] w w') => slip_Write x w' hi hg (ht.keep0 k)
  rw [hx] at hwr; have HWR := Lib.hid hwr; obtain ⟨t, htt⟩ : ∃ t, slipW x = t := ⟨_, rfl⟩
  rw [htt] at HWR hc; have HAP := Lib.hid (fun (S0 : List Nat) w' (p : Pk S0 w' d K) => show Calls Tryz.prog 107 #[.pointer (some ⟨d, 0, none⟩), .string ⟨#[100, 105, 97, 114, 121]⟩, .string (S t)] w' fun e w'' => e = .returned (.int .i64 0) ∧ ∃ S', Pk S' w'' d K' ∧ Grow S0 w' S' w'' from plank_Append d K K' dN t w' p hc); have hsz := S_size t; have HL0 := Lib.hid h; go_enter Tryz.func155, Tryz.ntmps155
  go_upto_region 1 with fail
  (try simp only [hn0]); generalize w.alloc (.cells XC.toArray 27) = w1 at k1 b1 ⊢; have B1 := Lib.hid b1; have HL1 := Lib.hid (h.keep0 k1); have K1 := Lib.hid k1; obtain ⟨size, hb⟩ := HL1.out.2.1; have c4 : w1.cell? ⟨l, 4, none⟩ = some (.bool false) := hb.get rfl; clear h hx hwr htt hc k1 b1 hn0 hb hi hg ht
  go_wp2_with (first | ((with_reducible refine gL 17 3 ?_); refine gl n0 0 XC B1.out.rng (by rw [HXL.out]; kernel_rfl) ?_; try simp only [sq]) | fail); refine (HWR.out _ K1.out).mono ?_; rintro e w2 ⟨rfl, k2⟩; have HL2 := Lib.hid (HL1.out.keep0 k2); have K2 := Lib.hid (K1.out.trans k2); obtain ⟨size2, hb2⟩ := HL2.out.2.1; have c0 : w2.cell? ⟨l, 0, none⟩ = some (.pointer (some ⟨d, 0, none⟩)) := hb2.get rfl; clear k2 hb2 c4; go_wp2_with fail; refine (HAP.out _ _ HL2.out.1).mono ?_; rintro e w3 ⟨rfl, S3, p3, g3⟩; have HL3 := Lib.hid (HL2.out.op p3 g3); clear p3 g3 c0; go_wp2_with fail; refine (diary_fail l d n sure K' w3 HL3.out.1).mono ?_; rintro e w4 ⟨rfl, h4, g4⟩; have HL4 := Lib.hid (And.intro h4 g4); obtain ⟨size4, hb4⟩ := h4.2.1; have c1 : w4.cell? ⟨l, 1, none⟩ = some (.int .i64 (n : Nat)) := hb4.get rfl; have f1 := hb4.frozen 1; have wk := IntWalk.i64_in ((n : Int) + 1) (by omega); have b5 := hb4.set 1 (.int .i64 ((n : Int) + 1)); have c3 : (w4.setCell ⟨l, 1, none⟩ (.int .i64 ((n : Int) + 1))).cell? ⟨l, 3, none⟩ = some (.int .i64 size4) := b5.get rfl; have f3 := b5.frozen 3
  have HF := Lib.hid (show Lg S3 ((w4.setCell ⟨l, 1, none⟩ (.int .i64 ((n : Int) + 1))).setCell ⟨l, 3, none⟩ (.int .i64 (wrap64 (size4 + (t.length : Nat))))) l d K' (n + 1) sure false ∧ Grow (l :: S0) w (l :: S3) ((w4.setCell ⟨l, 1, none⟩ (.int .i64 ((n : Int) + 1))).setCell ⟨l, 3, none⟩ (.int .i64 (wrap64 (size4 + (t.length : Nat))))) from by
    have kk : Keep [l] w4 ((w4.setCell ⟨l, 1, none⟩ (.int .i64 ((n : Int) + 1))).setCell ⟨l, 3, none⟩ (.int .i64 (wrap64 (size4 + (t.length : Nat))))) := ((Keep.refl _ _).setCell _ _ (by simp)).setCell _ _ (by simp); have := h4.nums kk (n' := n + 1) (sure' := sure) (sick' := false) (b5.set 3 (.int .i64 (wrap64 (size4 + (t.length : Nat))))); exact ⟨this.1, ((Grow.pre K2.out HL3.out.2).trans g4).trans this.2⟩)
  clear h4 g4 hb4 b5 HL3; go_wp2_with fail; go_ret; exact ⟨rfl, S3, HF.out⟩
theorem diary_Sync {S0 : List Nat} (l d n sure : Nat) (K K' : Dsk) (w : World) (h : Lg S0 w l d K n sure false) (hn : n ≤ 1000000) (hs : sure ≠ n) (hs2 : sure ≤ 1000000) (hc : syncD dN K = some K') :
    Calls Tryz.prog 156 #[.pointer (some ⟨l, 0, none⟩)] w fun e w' => e = .returned (.int .i64 0) ∧ ∃ S', Lg S' w' l d K' n n false ∧ Grow (l :: S0) w (l :: S') w' := by
  have HSY := Lib.hid (fun (S0 : List Nat) w' (p : Pk S0 w' d K) => show Calls Tryz.prog 136 #[.pointer (some ⟨d, 0, none⟩), .string ⟨#[100, 105, 97, 114, 121]⟩] w' fun e w'' => e = .returned (.int .i64 0) ∧ ∃ S', Pk S' w'' d K' ∧ Grow S0 w' S' w'' from plank_Sync d K K' dN w' p hc); obtain ⟨size, hb⟩ := h.2.1; have c4 : w.cell? ⟨l, 4, none⟩ = some (.bool false) := hb.get rfl; have c1 : w.cell? ⟨l, 1, none⟩ = some (.int .i64 (n : Nat)) := hb.get rfl; have c2 : w.cell? ⟨l, 2, none⟩ = some (.int .i64 (sure : Nat)) := hb.get rfl; have q1 : decide (sure = n) = false := decide_eq_false hs; have q2 : (sure == n) = false := by simp [hs]
  have q3 : ((sure : Int) == (n : Int)) = false := by simp; omega
  have q4 : decide ((sure : Int) = (n : Int)) = false := decide_eq_false (by omega); have HL := Lib.hid h; clear h hb hc; go_enter Tryz.func156, Tryz.ntmps156; go_wp2_with fail; go_quiet (fail); obtain ⟨w1, hw1⟩ : ∃ z, w.drewN nq = z := ⟨_, rfl⟩
  have k1 : Keep [] w w1 := by rw [← hw1]; exact (Keep.refl _ _).drewN _
  rw [hw1]; have HL1 := Lib.hid (HL.out.keep0 k1); have K1 := Lib.hid k1; obtain ⟨size1, hb1⟩ := HL1.out.2.1; clear hw1 k1 c4 c1 c2; have c0 : w1.cell? ⟨l, 0, none⟩ = some (.pointer (some ⟨d, 0, none⟩)) := hb1.get rfl; clear hb1; go_wp2_with fail; refine (HSY.out _ _ HL1.out.1).mono ?_; rintro e w3 ⟨rfl, S3, p3, g3⟩; have HL3 := Lib.hid (HL1.out.op p3 g3); clear p3 g3 c0; go_wp2_with fail; refine (diary_fail l d n sure K' w3 HL3.out.1).mono ?_; rintro e w4 ⟨rfl, h4, g4⟩; obtain ⟨size4, hb4⟩ := h4.2.1; have c1 : w4.cell? ⟨l, 1, none⟩ = some (.int .i64 (n : Nat)) := hb4.get rfl; have c2 : w4.cell? ⟨l, 2, none⟩ = some (.int .i64 (sure : Nat)) := hb4.get rfl; have f2 := hb4.frozen 2
  have HF := Lib.hid (show Lg S3 (w4.setCell ⟨l, 2, none⟩ (.int .i64 (n : Nat))) l d K' n n false ∧ Grow (l :: S0) w (l :: S3) (w4.setCell ⟨l, 2, none⟩ (.int .i64 (n : Nat))) from by
    have := h4.nums (w' := w4.setCell ⟨l, 2, none⟩ (.int .i64 (n : Nat))) ((Keep.refl _ _).setCell _ _ (by simp)) (n' := n) (sure' := n) (sick' := false) (hb4.set 2 (.int .i64 (n : Nat))); exact ⟨this.1, ((Grow.pre K1.out HL3.out.2).trans g4).trans this.2⟩)
  clear h4 g4 hb4 HL3; go_wp2_with fail; go_ret; exact ⟨rfl, S3, HF.out⟩
end Go.Proofs.YtkghgaopcgcheaaGreatDoor
