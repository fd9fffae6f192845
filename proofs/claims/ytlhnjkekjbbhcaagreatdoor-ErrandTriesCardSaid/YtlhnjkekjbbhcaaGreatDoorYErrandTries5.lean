/- Parts of the proof of ErrandTries, in order. No conditions but those that each theorem states. -/
import Derived.Test.YtlhnjkekjbbhcaaGreatDoorYErrandTries0
import Derived.Deep.AppendLies
import Derived.Deep.RegionLaw
import Derived.Deep.DeepHandedRow
import Derived.Lib.SlTrimSet
import Derived.Test.YtlhnjkekjbbhcaaGreatDoorYErrandTries4
set_option linter.unusedSimpArgs false
set_option linter.unusedVariables false
namespace Go.Proofs.YtlhnjkekjbbhcaaGreatDoor
open Go.RowKit Go.Shelf
theorem step_append3 {P : Program} {ops : Array Oper} {o : Oper} {a : Act} {w : World} {K : Act → World → Prop} {Q : Exit → Act → World → Prop} {X : Prop} (hgd : o.guard = none) (s x : Operand) (t : TypeId)
    (ho : o.op = .call { callee := .builtin .append, args := #[s, x], argTypes := #[t, t] })
    {α : Type} {enc : α → List Value} {n base : Nat} {E : TypeId} {L : List α} {v : Value}
    (i : TypeInfo) (z : Value) (bytes : Nat) (ht : P.underlying t = some (.slice E)) (HI : Hid (P.info? E = some i ∧ i.zero = some z ∧ i.size = n ∧ i.bytes = bytes)) (hzs : z.cells.size = n) (hn0 : 0 < n)
    (hn : ∀ x, (enc x).length = n) (h1 : ∀ x, ∀ u ∈ enc x, u.oneCell' = true)
    (hs : a.eval s = v) (hown : Own enc n base E w v L) (y : α) (B c : Nat) (hx : a.eval x = .slice (some ⟨B, 0, none⟩) 1 c) (hB : Blk w B E (enc y))
    (h63 : L.length + 1 ≤ maxLen) (hbytes : (L.length + 1) * bytes ≤ 140737488355328) (hbase : base ≤ w.heap.size)
    (h : ∀ g cap w', Own enc n base E w' (.slice (some ⟨g, 0, none⟩) (L.length + 1) cap) (L ++ [y]) → w.grownBy w' v.ownBlock → (v.ownBlock = some g ∨ g = w.heap.size) → K (a.put o.dst (.slice (some ⟨g, 0, none⟩) (L.length + 1) cap)) w') :
    if Region.wanted o (yielded ops a.tmps) = true then Oper.wp P o a w K Q else X := by
  refine step_append_lies _ hgd s x t ho base E i z n bytes ht HI.out.1 HI.out.2.1 HI.out.2.2.1 HI.out.2.2.2 hzs hn0 v L.length (rows enc L) hs hown ⟨B, 0, none⟩ 1 c (enc y) hx (by rw [hn]; omega) ?_ (h1 y) (by omega) h63 hbytes hbase _ rfl ?_
  · intro j u hj; have : (⟨B, 0, none⟩ : Addr).add j = ⟨B, j, none⟩ := by unfold Addr.add; split <;> simp_all
    rw [this, hB.cell j]; exact hj
  · intro g cap w' hown' hg hat _; refine h g cap w' ?_ hg hat; have : rows enc (L ++ [y]) = rows enc L ++ enc y := by simp [rows]
    unfold Own; rw [this, List.length_append]; exact hown'
def beginE (l : List UInt8) : Int := if l = [] then 3 else if 1024 < l.length then 4 else 0
set_option maxRecDepth 100000 in
set_option maxHeartbeats 1000000 in
theorem head_begin (W : World) (l : List UInt8) (b : Nat) (st : List UInt8) (F : List Fld) (at' : Nat) (w : World) (h : Hd W w b st F at') (hs : l.length ≤ 1048576) :
    Calls Tryz.prog 196 #[.pointer (some ⟨b, 0, none⟩), .string (S l)] w fun e w' => e = .returned (.int .i64 (beginE l)) ∧ Hd W w' b (if beginE l = 0 then l else st) F at' := by
  have hsz := S_size l; have hte := S_toList l; have H := Lib.hid h; obtain ⟨fv, h1, h2, h3, h4, h5⟩ := h; have c0 := h1.get (k := 0) rfl; have f0 := h1.frozen; have hlt := h1.lt
  have hset : Hd W (w.setCell ⟨b, 0, none⟩ (.string (S l))) b l F at' := by
    have hk : Keep [b] w (w.setCell ⟨b, 0, none⟩ (.string (S l))) := (Keep.refl [b] w).setCell _ _ (by simp); exact ⟨fv, h1.set 0 _, h2.keep hk (fun g hg => by simpa using h3 g hg), h3, h4, h5.setCell _ _ (by simp; omega)⟩
  have HS := Lib.hid hset; clear h1 h2 h3 h4 h5 hset; by_cases he : l = []
  · have hb : beginE l = 3 := if_pos he; have hee : l.isEmpty = true := by simp [he]
    rw [hb]; clear he; go_enter Tryz.func196, Tryz.ntmps196; go_wp2_with fail; go_ret; exact ⟨rfl, H.out⟩
  · have hee : l.isEmpty = false := by cases l <;> simp_all
    by_cases hl : 1024 < l.length
    · have hb : beginE l = 4 := by unfold beginE; rw [if_neg he, if_pos hl]
      rw [hb]; clear he; go_enter Tryz.func196, Tryz.ntmps196; go_wp2_with fail; go_ret; exact ⟨rfl, H.out⟩
    · have hb : beginE l = 0 := by unfold beginE; rw [if_neg he, if_neg hl]
      rw [hb]; clear he; go_enter Tryz.func196, Tryz.ntmps196; go_wp2_with fail; go_ret; exact ⟨rfl, HS.out⟩
theorem fldinfo : (Tryz.prog.info? 89).map (fun i => (i.zero, i.size, i.bytes)) = some (some (.agg #[.string ⟨#[]⟩, .string ⟨#[]⟩]), 2, 32) := by kernel_rfl
theorem fldinfo' : ∃ i0, Hid (Tryz.prog.info? 89 = some i0 ∧ i0.zero = some (.agg #[.string ⟨#[]⟩, .string ⟨#[]⟩]) ∧ i0.size = 2 ∧ i0.bytes = 32) := by
  obtain ⟨i0, hi, hz0, hz1, hz2⟩ := info_parts fldinfo; exact ⟨i0, hi, hz0, hz1, hz2⟩
theorem Fld.one (f : Fld) : ∀ u ∈ f.cells, u.oneCell' = true := by simp [Fld.cells, Value.oneCell']
def addM (F : List Fld) (l : List UInt8) : List Fld × Int :=
  match parseF l with
  | none => (F, 3)
  | some f => if 32 ≤ F.length then (F, 4) else (F ++ [f], 0)
set_option maxRecDepth 100000 in
set_option maxHeartbeats 1000000 in
theorem head_add (W : World) (hm : ML W) (l : List UInt8) (b : Nat) (st : List UInt8) (F : List Fld) (at' : Nat) (w : World) (h : Hd W w b st F at') (hs : l.length ≤ 1048576) :
    Calls Tryz.prog 197 #[.pointer (some ⟨b, 0, none⟩), .string (S l)] w fun e w' => e = .returned (.int .i64 (addM F l).2) ∧ Hd W w' b st (addM F l).1 at' := by
  have hP := field_Parse l w (hm.keep h.choose_spec.2.2.2.2 (by simp)) (by omega); have hA : addM F l = (match parseF l with | none => (F, 3) | some f => if 32 ≤ F.length then (F, 4) else (F ++ [f], 0)) := rfl; obtain ⟨is, Hs⟩ := fldinfo'
  cases hp : parseF l with
  | none =>
    have e1 : parseV l = ⟨[], []⟩ := by unfold parseV; rw [hp]; rfl
    have e2 : parseE l = 3 := by unfold parseE; rw [hp]; rfl
    rw [e1, e2] at hP; rw [hp] at hA; change Calls _ _ _ _ (fun e w' => e = .returned (.tuple #[.agg #[.string (S []), .string (S [])], .int .i64 3]) ∧ Keep [] w w') at hP; have H := Lib.hid h; have HA := Lib.hid hA; clear h hA hp e1 e2; go_enter Tryz.func197, Tryz.ntmps197; go_wp2_with fail; refine hP.mono ?_; rintro e w1 ⟨rfl, hk1⟩; have H1 := Lib.hid ((H.out.step hk1).step ((Keep.refl [] w1).alloc (.cells #[.string (S []), .string (S [])] 89))); clear hk1; go_wp2_with fail; go_ret; rw [HA.out]; exact ⟨rfl, H1.out⟩
  | some f =>
    have e1 : parseV l = f := by unfold parseV; rw [hp]; rfl
    have e2 : parseE l = 0 := by unfold parseE; rw [hp]; rfl
    rw [e1, e2] at hP; rw [hp] at hA; change Calls _ _ _ _ (fun e w' => e = .returned (.tuple #[.agg #[.string (S f.name), .string (S f.value)], .int .i64 0]) ∧ Keep [] w w') at hP; have H := Lib.hid h; clear h hp e1 e2; by_cases h32 : 32 ≤ F.length
    · dsimp only at hA; rw [if_pos h32] at hA; have HA := Lib.hid hA; clear hA; go_enter Tryz.func197, Tryz.ntmps197; go_wp2_with fail; refine hP.mono ?_; rintro e w1 ⟨rfl, hk1⟩; have H1 := Lib.hid ((H.out.step hk1).step ((Keep.refl [] w1).alloc (.cells #[.string (S f.name), .string (S f.value)] 89))); obtain ⟨fv, h1, h2, h3, h4, h5⟩ := H1.out; obtain ⟨fa, fc, rfl, hml⟩ := h2.shape; have hml' : F.length ≤ 9223372036854775807 := hml; have c1 := h1.get (k := 1) rfl; clear hk1 h1 h2 h3 h4 h5 hml; go_wp2_with fail; go_ret; rw [HA.out]; exact ⟨rfl, H1.out⟩
    · dsimp only at hA; rw [if_neg h32] at hA; have HA := Lib.hid hA; clear hA; go_enter Tryz.func197, Tryz.ntmps197; go_wp2_with fail; refine hP.mono ?_; rintro e w1 ⟨rfl, hk1⟩; have H1 := Lib.hid ((H.out.step hk1).step ((Keep.refl [] w1).alloc (.cells #[.string (S f.name), .string (S f.value)] 89))); have hbA := Blk.newA w1 #[.string (S f.name), .string (S f.value)] 89; generalize hwa : w1.alloc (.cells #[.string (S f.name), .string (S f.value)] 89) = wa at H1 hbA; obtain ⟨fv, h1, h2, h3, h4, h5⟩ := H1.out; obtain ⟨fa, fc, rfl, hml⟩ := h2.shape; have hml' : F.length ≤ 9223372036854775807 := hml; have c1 := h1.get (k := 1) rfl; have f1 := h1.frozen; have hlt := h1.lt; have d0 := hbA.get (k := 0) rfl; have d1 := hbA.get (k := 1) rfl
      go_upto_region 6 with fail
      have hoA := (h2.of_heap (w' := wa.drew) rfl).alloc (.cells #[.string (S f.name), .string (S f.value)] 89); have hbB := Blk.newA wa.drew #[.string (S f.name), .string (S f.value)] 89; have hbb := (h1.drew).alloc (.cells #[.string (S f.name), .string (S f.value)] 89); have hkB := (h5.drew).alloc (.cells #[.string (S f.name), .string (S f.value)] 89); have HOA := Lib.hid hoA; have HBB := Lib.hid hbB; have Hbb := Lib.hid hbb; have HKB := Lib.hid hkB; have HM := Lib.hid (show maxLen = 9223372036854775807 from rfl); have H3 := Lib.hid h3; have hWb := h4; clear hoA hbB hbb hkB h1 h2 h3 h5 hml hk1 hwa H1 hbA
      go_cut [] (fun wx => Hd W wx b st (F ++ [f]) at')
      case first =>
        go_region_law (
          refine step_append3 rfl (.tmp 27) (.tmp 29) 28 rfl is (.agg #[.string ⟨#[]⟩, .string ⟨#[]⟩]) 32 Tryz.underlying28 Hs rfl (by decide) Fld.cells_length Fld.one (by simp [Act.eval]) HOA.out f wa.heap.size 1 (by simp [Act.eval]) HBB.out (by have := HM.out; omega) (by omega) HKB.out.size ?_; intro g cap w2 hown hgrow hat; have hb2 : Blk w2 b 196 [.string (S st), .slice fa F.length fc, .int .i64 at'] := (hgrow.block b Hbb.out.lt (fun e => H3.out b e.symm rfl)).trans Hbb.out; have e1 := hb2.get (k := 1) rfl; have e2 := hb2.frozen; have e3 := hb2.lt)
        all_goals (
          go_wp2_with fail; go_meet; have hk2 : Keep [] W w2 := HKB.out.grown hgrow (fun k hk1 hk2 => absurd (HOA.out.lt k hk1).1 (by omega))
          have hgb : g ≠ b := by
            rcases hat with h | h
            · exact H3.out g h
            · intro e; have h' : g = wa.heap.size + 1 := h.trans (by simp); have : b < wa.heap.size := hlt; omega
          have hks : Keep [b] w2 (w2.setCell ⟨b, 1, none⟩ (.slice (some ⟨g, 0, none⟩) (F.length + 1) cap)) := (Keep.refl [b] w2).setCell _ _ (by simp); exact ⟨.slice (some ⟨g, 0, none⟩) (F.length + 1) cap, hb2.set 1 _, hown.keep hks (fun k hk => by simp [Value.ownBlock] at hk; subst hk; simpa using hgb), fun k hk => by simp [Value.ownBlock] at hk; subst hk; exact hgb, hWb, hk2.setCell _ _ (by simp; omega)⟩)
      case rest =>
        have HC := Lib.hid hcut; clear hcut; go_wp2_with fail; go_ret; rw [HA.out]; exact ⟨rfl, HC.out⟩
structure Rd where
  st : List UInt8
  F : List Fld
  n : Nat
  e : Int
  deriving Inhabited
def loopM (s st : List UInt8) : Nat → List Fld → Nat → Rd
  | 0, F, n => ⟨st, F, n, 17⟩
  | k + 1, F, n =>
    if (nextM s n).2.2 ≠ 0 then ⟨st, F, (nextM s n).2.1, (nextM s n).2.2⟩
    else if (nextM s n).1 = [] then ⟨st, F, (nextM s n).2.1, 0⟩
    else if (addM F (nextM s n).1).2 ≠ 0 then ⟨st, (addM F (nextM s n).1).1, (nextM s n).2.1, (addM F (nextM s n).1).2⟩
    else loopM s st k (addM F (nextM s n).1).1 (nextM s n).2.1
def readM (s : List UInt8) : Rd :=
  if (nextM s 0).2.2 ≠ 0 then ⟨[], [], (nextM s 0).2.1, (nextM s 0).2.2⟩
  else if beginE (nextM s 0).1 ≠ 0 then ⟨[], [], (nextM s 0).2.1, beginE (nextM s 0).1⟩
  else loopM s (nextM s 0).1 4097 [] (nextM s 0).2.1
def splitM (s : List UInt8) : Rd := if (readM s).e ≠ 0 then ⟨[], [], 0, (readM s).e⟩ else readM s
theorem lineM_length {l l' : List UInt8} (h : lineM l = some l') : l'.length ≤ l.length := by
  unfold lineM at h
  split at h
  · cases h; unfold Lib.trimSuffix
    split <;> simp
  · cases h
theorem next_bounds {s : List UInt8} {n : Nat} (h1 : n ≤ s.length) (h2 : n ≤ 4096) : (nextM s n).2.1 ≤ s.length ∧ (nextM s n).2.1 ≤ 4096 ∧ ((nextM s n).2.2 = 0 → n < (nextM s n).2.1) ∧ (nextM s n).1.length ≤ s.length := by
  have hq : (seenM s n).length + n ≤ 4096 ∧ (seenM s n).length + n ≤ s.length := by unfold seenM; simp; omega
  obtain ⟨q1, q2⟩ := hq; have hge := Lib.indexByte_ge (seenM s n) 10; unfold nextM; by_cases hi : Lib.indexByte (seenM s n) 10 < 0
  · rw [if_pos hi]; refine ⟨h1, h2, ?_, by simp⟩; dsimp only
    split <;> (intro h; cases h)
  · rw [if_neg hi]; obtain ⟨o, ho⟩ : ∃ o : Nat, Lib.indexByte (seenM s n) 10 = o := ⟨(Lib.indexByte (seenM s n) 10).toNat, by omega⟩
    have hol := (List.getElem?_eq_some_iff.1 (Lib.indexByte_some ho).1).1; rw [ho, Int.toNat_natCast]
    cases hl : lineM ((seenM s n).take (o + 1)) with
    | none => dsimp only; exact ⟨by omega, by omega, by omega, by simp⟩
    | some l =>
      have := lineM_length hl; dsimp only; exact ⟨by omega, by omega, by omega, by simp at this; omega⟩
set_option maxRecDepth 100000 in
set_option maxHeartbeats 1000000 in
theorem head_read (W : World) (hm : ML W) (s : List UInt8) (b : Nat) (w : World) (h : Hd W w b [] [] 0) (hs : s.length ≤ 1048576) :
    Calls Tryz.prog 163 #[.pointer (some ⟨b, 0, none⟩), .string (S s)] w fun e w' => e = .returned (.int .i64 (readM s).e) ∧ Hd W w' b (readM s).st (readM s).F (readM s).n := by
  have hN := head_next W s b [] [] 0 w h hs (Nat.zero_le _) (Nat.zero_le _); have hB := next_bounds (s := s) (n := 0) (Nat.zero_le _) (Nat.zero_le _)
  have hR : readM s = if (nextM s 0).2.2 ≠ 0 then ⟨[], [], (nextM s 0).2.1, (nextM s 0).2.2⟩
    else if beginE (nextM s 0).1 ≠ 0 then ⟨[], [], (nextM s 0).2.1, beginE (nextM s 0).1⟩
    else loopM s (nextM s 0).1 4097 [] (nextM s 0).2.1 := rfl
  generalize nextM s 0 = r at hN hB hR; obtain ⟨l, n, e0⟩ := r; dsimp only at hN hB hR; obtain ⟨b1, b2, b3, b4⟩ := hB; have HN := Lib.hid hN; clear hN h; by_cases he : e0 = 0
  · subst he; rw [if_neg (by simp)] at hR; have HG := Lib.hid (fun w1 (h : Hd W w1 b [] [] n) => head_begin W l b [] [] n w1 h (by omega)); go_enter Tryz.func163, Tryz.ntmps163; go_wp2_with fail; refine HN.out.mono ?_; rintro e w1 ⟨rfl, hd1⟩; have H1 := Lib.hid hd1; clear hd1; go_wp2_with fail; refine (HG.out _ H1.out).mono ?_; rintro e w2 ⟨rfl, hd2⟩
    have hst : ∃ st2, Hid (Hd W w2 b st2 [] n) ∧ Hid (readM s = if beginE l ≠ 0 then ⟨st2, [], n, beginE l⟩ else loopM s st2 4097 [] n) := by
      by_cases hz : beginE l = 0
      · exact ⟨l, by rw [if_pos hz] at hd2; exact hd2, by rw [hR]; simp [hz, Hid]⟩
      · exact ⟨[], by rw [if_neg hz] at hd2; exact hd2, by rw [hR]; simp [hz, Hid]⟩
    obtain ⟨st2, H2, HR⟩ := hst; clear hd2 hR; generalize beginE l = e2 at HR; go_wp2_with fail
    go_loopg [5, 6] (4097 - n) (fun g lv ev wr => ∃ (l' : List UInt8) (F : List Fld) (n' k : Nat) (e' : Int), lv = .string (S l') ∧ ev = .int .i64 e' ∧ n' ≤ s.length ∧ n' ≤ 4096 ∧ 4097 - n' ≤ k ∧ g = 4097 - n' ∧ Hid (Hd W wr b st2 F n') ∧
      Hid (readM s = if e' ≠ 0 then ⟨st2, F, n', e'⟩ else loopM s st2 k F n'))
    case atStart => exact ⟨l, [], n, 4097, e2, rfl, rfl, b1, b2, by omega, rfl, H2, HR⟩
    case round =>
      obtain ⟨l', F, n', k, e', rfl, rfl, c1, c2, c3, rfl, HD, HR2⟩ := hrel; by_cases hz : e' = 0
      · subst hz; obtain ⟨k', rfl⟩ : ∃ k', k = k' + 1 := ⟨k - 1, by omega⟩
        have hN2 := head_next W s b st2 F n' wr HD.out hs c1 c2; have hB2 := next_bounds c1 c2; have hR2 := HR2.out; rw [if_neg (by simp), loopM] at hR2; generalize nextM s n' = r2 at hN2 hB2 hR2; obtain ⟨l2, n2, e3⟩ := r2; dsimp only at hN2 hB2 hR2; obtain ⟨p1, p2, p3, p4⟩ := hB2; have HN2 := Lib.hid hN2; have hte := S_toList l2; clear hN2 HR HR2 H2 HG HN H1; by_cases h3 : e3 = 0
        · subst h3; have p5 := p3 rfl; rw [if_neg (by simp)] at hR2; by_cases hle : l2 = []
          · rw [if_pos hle] at hR2; have HR3 := Lib.hid hR2; subst hle; have hq : (S []).toList = [] := S_toList []; clear hR2 p3; go_wp2_with fail; refine HN2.out.mono ?_; rintro e w3 ⟨rfl, hd3⟩; have H3 := Lib.hid hd3; clear hd3; go_wp2_with fail; go_ret; rw [HR3.out]; exact ⟨rfl, H3.out⟩
          · rw [if_neg hle] at hR2; have hie : l2.isEmpty = false := by cases l2 <;> simp_all
            have HR3 := Lib.hid hR2; have HA := Lib.hid (fun w1 (h : Hd W w1 b st2 F n2) => head_add W hm l2 b st2 F n2 w1 h (by omega)); clear hR2 p3 hle; go_wp2_with fail; refine HN2.out.mono ?_; rintro e w3 ⟨rfl, hd3⟩; have H3 := Lib.hid hd3; clear hd3; go_wp2_with fail; refine (HA.out _ H3.out).mono ?_; rintro e w4 ⟨rfl, hd4⟩; have H4 := Lib.hid hd4; clear hd4; go_wp2_with fail
            go_roundg (4097 - n2)
            case measure => omega
            case rel => exact ⟨l2, (addM F l2).1, n2, k', (addM F l2).2, rfl, rfl, p1, p2, by omega, rfl, H4, HR3⟩
        · rw [if_pos h3] at hR2; have HR3 := Lib.hid hR2; have hq1 : (e3 == 0) = false := by simpa using h3
          clear hR2 p3; go_wp2_with fail; refine HN2.out.mono ?_; rintro e w3 ⟨rfl, hd3⟩; have H3 := Lib.hid hd3; clear hd3; go_wp2_with fail; go_ret; rw [HR3.out]; exact ⟨rfl, H3.out⟩
      · have hR2 := HR2.out; rw [if_pos hz] at hR2; have HR3 := Lib.hid hR2; clear hR2 HR HR2 H2 HG HN H1; go_wp2_with fail; go_ret; rw [HR3.out]; exact ⟨rfl, HD.out⟩
  · rw [if_pos he] at hR; have HR := Lib.hid hR; clear hR b3; go_enter Tryz.func163, Tryz.ntmps163; go_wp2_with fail; refine HN.out.mono ?_; rintro e w1 ⟨rfl, hd1⟩; have H1 := Lib.hid hd1; clear hd1; go_wp2_with fail
    go_loopg [5, 6] 1 (fun g lv ev wr => lv = .string (S l) ∧ ev = .int .i64 e0 ∧ wr = w1)
    case atStart => exact ⟨rfl, rfl, rfl⟩
    case round =>
      obtain ⟨rfl, rfl, rfl⟩ := hrel; go_wp2_with fail; go_ret; rw [HR.out]; exact ⟨rfl, H1.out⟩
theorem results_tmp4 {fn : Func} {t u v x : Tmp} (h : fn.results = #[.tmp t, .tmp u, .tmp v, .tmp x]) (tmps : Array Value) (P : Program) (w : World) :
    (results fn tmps).run P w = .ok (.tuple #[tmps.getD t undef, tmps.getD u undef, tmps.getD v undef, tmps.getD x undef]) w := by
  simp [results, h]
def SplitOut (w : World) (r : Rd) (e : Ending) (w' : World) : Prop := ∃ v, e = .returned (.tuple #[.string (S r.st), v, .int .i64 r.n, .int .i64 r.e]) ∧ Own Fld.cells 2 w.heap.size 89 w' v r.F ∧ Keep [] w w'
set_option maxRecDepth 100000 in
set_option maxHeartbeats 1000000 in
theorem field_Split (s : List UInt8) (w : World) (hm : ML w) (hs : s.length ≤ 1048576) :
    Calls Tryz.prog 113 #[.string (S s)] w (SplitOut w (splitM s)) := by
  have HR := Lib.hid (fun w1 (h : Hd w w1 w.heap.size [] [] 0) => head_read w hm s w.heap.size w1 h hs)
  have hH : Hd w (w.alloc (.cells #[.string ⟨#[]⟩, .slice none 0 0, .int .i64 0] 196)) w.heap.size [] [] 0 :=
    ⟨.slice none 0 0, Blk.newA w #[.string ⟨#[]⟩, .slice none 0 0, .int .i64 0] _, Own.nil _ _ _ _ _, by simp [Value.ownBlock], Nat.le_refl _, (Keep.refl _ _).alloc _⟩
  have HH := Lib.hid hH; have hsp : splitM s = if (readM s).e ≠ 0 then ⟨[], [], 0, (readM s).e⟩ else readM s := rfl
  generalize readM s = r at HR hsp; clear hH; by_cases he : r.e = 0
  · rw [if_neg (by simpa using he)] at hsp; have HS := Lib.hid hsp; have HE := Lib.hid he; rw [he] at HR; clear hsp he; go_enter Tryz.func113, Tryz.ntmps113; go_wp2_with fail; refine (HR.out _ HH.out).mono ?_; rintro e w1 ⟨rfl, hd1⟩; obtain ⟨fv, h1, h2, h3, h4, h5⟩ := hd1; have c0 := h1.get (k := 0) rfl; have c1 := h1.get (k := 1) rfl; have c2 := h1.get (k := 2) rfl; have H2 := Lib.hid h2; have H5 := Lib.hid h5; clear h1 h2 h3 h4 h5; go_wp2_with fail; go_quiet (fail); go_wp2_with fail; refine bodyPost_ret (results_tmp4 rfl _ _ _) rfl ?_; rw [HS.out]; exact ⟨fv, by rw [HE.out]; rfl, H2.out.of_heap rfl, H5.out.drewN _⟩
  · rw [if_pos he] at hsp; have HS := Lib.hid hsp; have hq1 : (r.e == 0) = false := by simpa using he
    clear hsp he; go_enter Tryz.func113, Tryz.ntmps113; go_wp2_with fail; refine (HR.out _ HH.out).mono ?_; rintro e w1 ⟨rfl, hd1⟩; have H1 := Lib.hid hd1; clear hd1; go_wp2_with fail; refine bodyPost_ret (results_tmp4 rfl _ _ _) rfl ?_; rw [HS.out]; exact ⟨_, rfl, Own.nil _ _ _ _ _, H1.out.choose_spec.2.2.2.2⟩
end Go.Proofs.YtlhnjkekjbbhcaaGreatDoor
namespace Go.Proofs.YtlhnjkekjbbhcaaGreatDoor
open Go.RowKit Go.ChangeShapes Go.WideShapes
theorem str_cells : Tryz.prog.cellsOf 9 = 1 := by kernel_rfl
theorem Calls.below {P : Program} {f : FuncId} {args : Array Value} {w : World} {v : Value} (h : Calls P f args w fun e w' => e = .returned v ∧ Keep [] w w') : Calls P f args w fun e w' => e = .returned v ∧ Below w.heap.size w w' :=
  h.mono fun _ _ h => ⟨h.1, h.2.below (by simp)⟩
theorem ML.shape {W : World} (h : W.ShapedOpen Tryz.prog) : ML W :=
  Go.Proofs.cell_of_shapedOpen_int (zero := #[.int .i64 0]) (t := 3) h (of_decide_eq_true (by kernel_rfl)) (by kernel_rfl) rfl (by kernel_rfl) (by kernel_rfl) Tryz.underlying3
def flatD : Nat → DataW Unit → List Value
  | 0, _ => []
  | n + 1, .agg l => l.flatMap (flatD n)
  | _ + 1, .lit (.int k z) => [.int k z]
  | _ + 1, .lit (.bool b) => [.bool b]
  | _ + 1, .lit (.string s) => [.string ⟨s.toArray⟩]
  | _ + 1, _ => []
noncomputable def laidHeap (l : List (String × DataW Unit)) (h : Array Obj) : Array Obj :=
  l.foldl (fun h x => match Tryz.prog.globalNamed x.1 with
    | some g => h.modify g fun
      | .cells _ t fr => .cells (flatD 6 x.2).toArray t fr
      | o => o
    | none => h) h
noncomputable def laidWorld (os : Os) (l : List (String × DataW Unit)) : World :=
  { World.holding Tryz.prog os ⟨#[], #[], []⟩ with heap := laidHeap l (World.holding Tryz.prog os ⟨#[], #[], []⟩).heap }
end Go.Proofs.YtlhnjkekjbbhcaaGreatDoor
namespace Go.Proofs.YtlhnjkekjbbhcaaGreatDoor
open Go.RowKit
def lettersB : List UInt8 := [97, 98, 99, 100, 101, 102, 103, 104, 105, 106, 107, 108, 109, 110, 111, 112, 113, 114, 115, 116, 117, 118, 119, 120, 121, 122, 48, 49, 50, 51, 52, 53, 54, 55, 56, 57]
def sepsB : List UInt8 := [46, 95, 45]
def tagsB : List UInt8 := lettersB ++ [65, 66, 67, 68, 69, 70, 71, 72, 73, 74, 75, 76, 77, 78, 79, 80, 81, 82, 83, 84, 85, 86, 87, 88, 89, 90] ++ sepsB
def isSepM (l : List UInt8) : Bool := l == [46] || l == [95] || l == [95, 95] || (!l.isEmpty && (Lib.trimS l [45]).isEmpty)
def wordR (s : List UInt8) : List UInt8 := Lib.trimLeftS s lettersB
def sepR (s : List UInt8) : List UInt8 := Lib.trimLeftS s sepsB
def partM : Nat → List UInt8 → Bool
  | 0, _ => false
  | k + 1, s => if (wordR s).length = s.length then false else if wordR s = [] then true
    else if isSepM ((wordR s).take ((wordR s).length - (sepR (wordR s)).length)) then partM k (sepR (wordR s)) else false
def isPartM (s : List UInt8) : Bool := partM (s.length + 1) s
theorem wordR_le (s : List UInt8) : (wordR s).length ≤ s.length := (List.dropWhile_sublist _).length_le
theorem sepR_le (s : List UInt8) : (sepR s).length ≤ s.length := (List.dropWhile_sublist _).length_le
def slashF : Nat → List UInt8 → List (List UInt8)
  | 0, s => [s]
  | k + 1, s => if Lib.indexByte s 47 = -1 then [s] else s.take (Lib.indexByte s 47).toNat :: slashF k (s.drop ((Lib.indexByte s 47).toNat + 1))
def isRepoM (s : List UInt8) : Bool := decide (s.length ≤ 128) && (slashF s.length s).all isPartM
def isTagM (s : List UInt8) : Bool := !s.isEmpty && decide (s.length ≤ 128) && (s.headD 0 != 46) && (s.headD 0 != 45) && s.all tagsB.contains
end Go.Proofs.YtlhnjkekjbbhcaaGreatDoor
namespace Go.Proofs.YtlhnjkekjbbhcaaGreatDoor
open Go.RowKit Go.Shelf
theorem slashF_end {k : Nat} {r : List UInt8} (h : ∀ j : Nat, r[j]? ≠ some (47 : UInt8)) : slashF k r = [r] := by
  have hi : Lib.indexByte r 47 = -1 := by
    have hge := Lib.indexByte_ge r 47; by_cases h1 : Lib.indexByte r 47 = -1
    · exact h1
    · obtain ⟨i, hi⟩ : ∃ i : Nat, Lib.indexByte r 47 = i := ⟨(Lib.indexByte r 47).toNat, by omega⟩
      exact absurd (Lib.indexByte_some hi).1 (h i)
  cases k with
  | zero => rfl
  | succ k => show (if _ then _ else _) = _; rw [if_pos hi]
theorem slashF_more {k i : Nat} {r : List UInt8} (h : r[i]? = some (47 : UInt8)) (hf : ∀ j : Nat, j < i → r[j]? ≠ some (47 : UInt8)) (hk : r.length ≤ k) : slashF k r = r.take i :: slashF (k - 1) (r.drop (i + 1)) := by
  have hlt := (List.getElem?_eq_some_iff.1 h).1; have hi : Lib.indexByte r 47 = (i : Nat) := indexByte_at h hf
  cases k with
  | zero => omega
  | succ k =>
    show (if _ then _ else _) = _; rw [if_neg (by rw [hi]; omega), hi]; simp
theorem slash_last (P : List UInt8 → Bool) : ∀ (k : Nat) (r : List UInt8) (q : Nat), r.length ≤ k → r[q]? = some (47 : UInt8) → (∀ j : Nat, q < j → r[j]? ≠ some (47 : UInt8)) → (slashF k r).all P = ((slashF k (r.take q)).all P && P (r.drop (q + 1)))
  | 0, r, q, hk, hq, _ => by
    have := (List.getElem?_eq_some_iff.1 hq).1; omega
  | k + 1, r, q, hk, hq, hl => by
    have hqlt := (List.getElem?_eq_some_iff.1 hq).1
    obtain ⟨i, hi, hf⟩ : ∃ i, r[i]? = some (47 : UInt8) ∧ ∀ j : Nat, j < i → r[j]? ≠ some (47 : UInt8) := by
      have hge := Lib.indexByte_ge r 47; by_cases h1 : Lib.indexByte r 47 = -1
      · exact absurd hq (Lib.indexByte_none h1 q)
      · obtain ⟨i, hi⟩ : ∃ i : Nat, Lib.indexByte r 47 = i := ⟨(Lib.indexByte r 47).toNat, by omega⟩
        exact ⟨i, (Lib.indexByte_some hi).1, (Lib.indexByte_some hi).2⟩
    have hiq : i ≤ q := by
      rcases Nat.lt_or_ge q i with h | h
      · exact absurd hq (hf q h)
      · exact h
    rw [slashF_more hi hf hk, Nat.add_sub_cancel]; rcases Nat.lt_or_ge i q with hlt | hge
    · have hi2 : (r.take q)[i]? = some (47 : UInt8) := by rw [List.getElem?_take, if_pos hlt]; exact hi
      have hf2 : ∀ j : Nat, j < i → (r.take q)[j]? ≠ some (47 : UInt8) := fun j hj => by rw [List.getElem?_take, if_pos (by omega)]; exact hf j hj
      rw [slashF_more (k := k + 1) hi2 hf2 (by rw [List.length_take]; omega), Nat.add_sub_cancel]; have ih := slash_last P k (r.drop (i + 1)) (q - i - 1) (by rw [List.length_drop]; omega) (by rw [List.getElem?_drop, show i + 1 + (q - i - 1) = q by omega]; exact hq) (fun j hj => by rw [List.getElem?_drop]; exact hl _ (by omega)); have e1 : (r.drop (i + 1)).take (q - i - 1) = (r.take q).drop (i + 1) := by rw [List.drop_take, Nat.sub_sub]
      have e2 : (r.drop (i + 1)).drop (q - i - 1 + 1) = r.drop (q + 1) := by rw [List.drop_drop]; congr 1; omega
      have e3 : (r.take q).take i = r.take i := by rw [List.take_take]; congr 1; omega
      rw [e1, e2] at ih; rw [e3, List.all_cons, List.all_cons, ih, Bool.and_assoc]
    · have : i = q := by omega
      subst this
      rw [slashF_end (r := r.take i) (fun j h => by
        rw [List.getElem?_take] at h
        split at h
        · rename_i hj; exact hf j hj h
        · cases h)]
      rw [slashF_end (r := r.drop (i + 1)) (fun j h => by rw [List.getElem?_drop] at h; exact hl _ (by omega) h)]; simp
end Go.Proofs.YtlhnjkekjbbhcaaGreatDoor
