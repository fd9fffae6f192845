/- Layer 21: the document's rack says what the rack says. No conditions. -/
import Derived.Test.YtbfnpoknamajnaaRkW
namespace Go.Proofs.Ytbfnpoknamajnaa
open Go.RowKit Go.Maps

set_option maxRecDepth 100000 in
set_option maxHeartbeats 1000000 in
theorem ref_Touch_no (u : Nat) (v : Value) (L : List Jar) (budget : Int) (d : Dig) (w : World) (h : Dk w u v L budget) (hk : posL L d = -1) :
    Calls Try.prog 36 #[.pointer (some ⟨u, 0, none⟩), .agg (digC d).toArray] w fun e w' => e = .returned (.int .i64 7) ∧ Done w w' u v L budget := by
  have hb := Blk.newA w (digC d).toArray 44
  have hkA := (Keep.refl [] w).alloc (.cells (digC d).toArray 44)
  generalize hwA : w.alloc (.cells (digC d).toArray 44) = wA at hb hkA
  have HDB := Lib.hid (hb.rangeAt)
  have HP1 := Lib.hid (ref_Place u _ L budget d wA (h.keep0 hkA))
  rw [hk] at HP1
  have H := Lib.hid h
  have HK := Lib.hid hkA
  have HDL := Lib.hid (digC_length d)
  generalize digC d = dc at *
  clear hb hkA h hk
  go_enter Try.func36, Try.ntmps36
  go_wp2_with (first
    | (refine wpList_load_mid rfl 44 (.tmp 3) rfl w.heap.size 0 (by rfl) dc _ HDB.out Try.underlying44 rfl (by rw [HDL.out]; exact dig_size) ?_)
    | fail)
  refine HP1.out.mono ?_
  rintro e w2 ⟨rfl, k2⟩
  go_wp2_with fail
  go_ret
  exact ⟨rfl, Done.same H.out (HK.out.trans k2)⟩
set_option maxRecDepth 100000 in
set_option maxHeartbeats 1000000 in
theorem ref_Pin_no (u : Nat) (v : Value) (L : List Jar) (budget : Int) (d : Dig) (q : Int) (w : World) (h : Dk w u v L budget) (hk : posL L d = -1) :
    Calls Try.prog 38 #[.pointer (some ⟨u, 0, none⟩), .agg (digC d).toArray, .int .i64 q] w fun e w' => e = .returned (.int .i64 7) ∧ Done w w' u v L budget := by
  have hb := Blk.newA w (digC d).toArray 44
  have hkA := (Keep.refl [] w).alloc (.cells (digC d).toArray 44)
  generalize hwA : w.alloc (.cells (digC d).toArray 44) = wA at hb hkA
  have HDB := Lib.hid (hb.rangeAt)
  have HP1 := Lib.hid (ref_Place u _ L budget d wA (h.keep0 hkA))
  rw [hk] at HP1
  have H := Lib.hid h
  have HK := Lib.hid hkA
  have HDL := Lib.hid (digC_length d)
  generalize digC d = dc at *
  clear hb hkA h hk
  go_enter Try.func38, Try.ntmps38
  go_wp2_with (first
    | (refine wpList_load_mid rfl 44 (.tmp 4) rfl w.heap.size 0 (by rfl) dc _ HDB.out Try.underlying44 rfl (by rw [HDL.out]; exact dig_size) ?_)
    | fail)
  refine HP1.out.mono ?_
  rintro e w2 ⟨rfl, k2⟩
  go_wp2_with fail
  go_ret
  exact ⟨rfl, Done.same H.out (HK.out.trans k2)⟩
set_option maxRecDepth 100000 in
set_option maxHeartbeats 1000000 in
theorem ref_Drop_no (u : Nat) (v : Value) (L : List Jar) (budget : Int) (d : Dig) (w : World) (h : Dk w u v L budget) (hk : posL L d = -1) :
    Calls Try.prog 40 #[.pointer (some ⟨u, 0, none⟩), .agg (digC d).toArray] w fun e w' => e = .returned (.int .i64 7) ∧ Done w w' u v L budget := by
  have hb := Blk.newA w (digC d).toArray 44
  have hkA := (Keep.refl [] w).alloc (.cells (digC d).toArray 44)
  generalize hwA : w.alloc (.cells (digC d).toArray 44) = wA at hb hkA
  have HDB := Lib.hid (hb.rangeAt)
  have HP1 := Lib.hid (ref_Place u _ L budget d wA (h.keep0 hkA))
  rw [hk] at HP1
  have H := Lib.hid h
  have HK := Lib.hid hkA
  have HDL := Lib.hid (digC_length d)
  generalize digC d = dc at *
  clear hb hkA h hk
  go_enter Try.func40, Try.ntmps40
  go_wp2_with (first
    | (refine wpList_load_mid rfl 44 (.tmp 3) rfl w.heap.size 0 (by rfl) dc _ HDB.out Try.underlying44 rfl (by rw [HDL.out]; exact dig_size) ?_)
    | fail)
  refine HP1.out.mono ?_
  rintro e w2 ⟨rfl, k2⟩
  go_wp2_with fail
  go_ret
  exact ⟨rfl, Done.same H.out (HK.out.trans k2)⟩

theorem rest_at : ∀ (L : List Jar) (k : Nat) (x : Jar) (d : Dig), (L.map (·.dig)).Nodup → L[k]? = some x → x.dig = d → restL L d = L.take k ++ L.drop (k + 1)
  | [], k, x, d, _, hx, _ => by simp at hx
  | y :: r, 0, x, d, hn, hx, hd => by
    simp at hx
    subst hx
    simp only [List.map_cons, List.nodup_cons] at hn
    have : r.filter (fun x => !decide (x.dig = d)) = r := by
      rw [List.filter_eq_self]
      intro z hz
      have : z.dig ≠ d := fun e => hn.1 (by rw [hd, ← e]; exact List.mem_map_of_mem hz)
      simp [this]
    simp [restL, hd, this]
  | y :: r, k + 1, x, d, hn, hx, hd => by
    simp only [List.map_cons, List.nodup_cons] at hn
    have hx' : r[k]? = some x := by simpa using hx
    have hy : y.dig ≠ d := fun e => hn.1 (by rw [e, ← hd]; exact List.mem_map_of_mem (List.mem_of_getElem? hx'))
    have ih := rest_at r k x d hn.2 hx' hd
    unfold restL at *
    simp [hy, ih]
theorem pins_at : ∀ (L : List Jar) (k : Nat) (x : Jar) (d : Dig) (n : Int), (L.map (·.dig)).Nodup → L[k]? = some x → x.dig = d → pinsL L d n = L.set k { x with pins := n }
  | [], k, x, d, n, _, hx, _ => by simp at hx
  | y :: r, 0, x, d, n, hn, hx, hd => by
    simp at hx
    subst hx
    simp only [List.map_cons, List.nodup_cons] at hn
    have : r.map (fun x => if x.dig = d then { x with pins := n } else x) = r := by
      conv => rhs; rw [← List.map_id r]
      refine List.map_congr_left (fun z hz => ?_)
      have : z.dig ≠ d := fun e => hn.1 (by rw [hd, ← e]; exact List.mem_map_of_mem hz)
      simp [this]
    simp [pinsL, hd, this]
  | y :: r, k + 1, x, d, n, hn, hx, hd => by
    simp only [List.map_cons, List.nodup_cons] at hn
    have hx' : r[k]? = some x := by simpa using hx
    have hy : y.dig ≠ d := fun e => hn.1 (by rw [e, ← hd]; exact List.mem_map_of_mem (List.mem_of_getElem? hx'))
    have ih := pins_at r k x d n hn.2 hx' hd
    unfold pinsL at *
    simp [hy, ih]
theorem put_same (L : List Jar) (j : Jar) : refPutE L j = putE L j ∧ refPutL L j = putL L j := by
  have : refPutE L j = putE L j := by
    unfold refPutE putE
    rcases posL_or L j.dig with ⟨h1, h2⟩ | ⟨k, x, h1, _, _, h2⟩
    · rw [h1, h2]; simp
    · rw [h1, h2]; simp
  exact ⟨this, by unfold refPutL putL; rw [this]⟩
theorem has_pos (L : List Jar) (d : Dig) : hasJ L d = decide (0 ≤ posL L d) := by
  unfold hasJ
  rcases posL_or L d with ⟨h1, h2⟩ | ⟨k, x, h1, _, _, h2⟩
  · rw [h1, h2]; simp
  · rw [h1, h2]; simp
section
variable {w : World} {u : Nat} {v : Value} {L : List Jar} {budget : Int}
theorem dk_Put (h : Dk w u v L budget) (hL : L.length ≤ 64) (j : Jar) (hjl : j.typ.length ≤ maxLen) :
    Calls Try.prog 35 #[.pointer (some ⟨u, 0, none⟩), .agg j.cells.toArray] w fun e w' => e = .returned (.int .i64 (putE L j)) ∧ Done w w' u v (putL L j) budget := by
  have := ref_Put21 u v L budget j w h hL hjl
  rwa [(put_same L j).1, (put_same L j).2] at this
theorem dk_Touch (h : Dk w u v L budget) (hL : L.length ≤ 64) (hn : (L.map (·.dig)).Nodup) (d : Dig) :
    Calls Try.prog 36 #[.pointer (some ⟨u, 0, none⟩), .agg (digC d).toArray] w fun e w' => e = .returned (.int .i64 (hereE L d)) ∧ Done w w' u v (touchL L d) budget := by
  rcases posL_or L d with ⟨h1, h2⟩ | ⟨k, x, h1, hx, hd, h2⟩
  · have := ref_Touch_no u v L budget d w h h1
    unfold hereE touchL
    rw [h2]
    exact this
  · have := ref_Touch21 u v L budget d w h hL k x h1 hx
    unfold hereE touchL
    rw [h2, rest_at L k x d hn hx hd]
    exact this
theorem dk_Drop (h : Dk w u v L budget) (hL : L.length ≤ 64) (hn : (L.map (·.dig)).Nodup) (d : Dig) :
    Calls Try.prog 40 #[.pointer (some ⟨u, 0, none⟩), .agg (digC d).toArray] w fun e w' => e = .returned (.int .i64 (dropE L d)) ∧ Done w w' u v (dropL L d) budget := by
  rcases posL_or L d with ⟨h1, h2⟩ | ⟨k, x, h1, hx, hd, h2⟩
  · have := ref_Drop_no u v L budget d w h h1
    unfold dropE dropL
    rw [h2]
    exact this
  · have := ref_Drop21 u v L budget d w h hL k x h1 hx
    unfold dropE dropL
    rw [h2, rest_at L k x d hn hx hd]
    exact this
theorem dk_Pin (h : Dk w u v L budget) (hL : L.length ≤ 64) (hn : (L.map (·.dig)).Nodup) (hg : ∀ j ∈ L, 0 ≤ j.pins ∧ j.pins < 1073741824) (d : Dig) :
    Calls Try.prog 38 #[.pointer (some ⟨u, 0, none⟩), .agg (digC d).toArray, .int .i64 1] w fun e w' => e = .returned (.int .i64 (pinE L d)) ∧ Done w w' u v (pinL L d) budget := by
  rcases posL_or L d with ⟨h1, h2⟩ | ⟨k, x, h1, hx, hd, h2⟩
  · have := ref_Pin_no u v L budget d 1 w h h1
    unfold pinE pinL
    rw [h2]
    exact this
  · have hgx := hg x (List.mem_of_getElem? hx)
    have := ref_Pin21 u v L budget d 1 (.inl rfl) w h hL k x h1 hx ⟨hgx.1, by omega⟩
    unfold pinE pinL
    rw [h2]
    dsimp only
    rw [if_neg (by omega), if_neg (by omega), pins_at L k x d _ hn hx hd]
    rw [if_neg (by omega), if_neg (by omega)] at this
    exact this
theorem dk_Unpin (h : Dk w u v L budget) (hL : L.length ≤ 64) (hn : (L.map (·.dig)).Nodup) (hg : ∀ j ∈ L, 0 ≤ j.pins ∧ j.pins < 1073741824) (d : Dig) :
    Calls Try.prog 38 #[.pointer (some ⟨u, 0, none⟩), .agg (digC d).toArray, .int .i64 (-1)] w fun e w' => e = .returned (.int .i64 (unpinE L d)) ∧ Done w w' u v (unpinL L d) budget := by
  rcases posL_or L d with ⟨h1, h2⟩ | ⟨k, x, h1, hx, hd, h2⟩
  · have := ref_Pin_no u v L budget d (-1) w h h1
    unfold unpinE unpinL
    rw [h2]
    exact this
  · have hgx := hg x (List.mem_of_getElem? hx)
    have := ref_Pin21 u v L budget d (-1) (.inr rfl) w h hL k x h1 hx ⟨hgx.1, by omega⟩
    unfold unpinE unpinL
    rw [h2]
    dsimp only
    by_cases hz : x.pins = 0
    · rw [if_pos hz, if_pos hz]
      rw [if_pos ⟨by omega, hz⟩, if_pos ⟨by omega, hz⟩] at this
      exact this
    · rw [if_neg hz, if_neg hz, pins_at L k x d _ hn hx hd]
      rw [if_neg (fun e => hz e.2), if_neg (fun e => hz e.2)] at this
      exact this
end
end Go.Proofs.Ytbfnpoknamajnaa
