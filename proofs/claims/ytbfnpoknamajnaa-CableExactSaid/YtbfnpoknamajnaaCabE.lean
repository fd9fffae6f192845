/- Each call on the pool of cables, whatever its arguments, as a plain function of the pool; the document's pool as a function of it. No conditions. -/
import Derived.Test.YtbfnpoknamajnaaCabP
import Derived.Test.YtbfnpoknamajnaaCabR2
namespace Go.Proofs.Ytbfnpoknamajnaa
open Go.RowKit

/-- The document's cable that goes with one. -/
def Cab.toR (c : Cab) : Rcab := ⟨if c.busy then c.owner + 1 else 0, c.out, c.inn, c.cut, c.life⟩
def Cab.good (t : Nat) (c : Cab) : Prop := c.out.size ≤ 8192 * t ∧ c.inn.size ≤ 16384 ∧ 0 ≤ c.owner ∧ c.owner < 4611686018427387904

def at? (L : List Cab) (i : Int) : Option Cab := if 0 ≤ i then L[i.toNat]? else none
theorem at?_some {L : List Cab} {i : Int} {c : Cab} (h : at? L i = some c) : 0 ≤ i ∧ i < L.length ∧ L[i.toNat]? = some c := by
  unfold at? at h
  split at h
  · rename_i h0
    have := lt_of_get h
    exact ⟨h0, by omega, h⟩
  · cases h
theorem at?_none {L : List Cab} {i : Int} (h : at? L i = none) : i < 0 ∨ L.length ≤ i := by
  unfold at? at h
  split at h
  · rename_i h0
    have := List.getElem?_eq_none_iff.1 h
    exact .inr (by omega)
  · exact .inl (by omega)
theorem toR_get {L : List Cab} {n : Nat} {c : Cab} (h : L[n]? = some c) : (L.map Cab.toR)[n]? = some c.toR := by simp [h]
theorem toR_owner {c : Cab} {t : Nat} (h : c.good t) : (c.toR.owner == 0) = !c.busy := by
  unfold Cab.toR
  cases c.busy with
  | true => simp; have := h.2.2.1; omega
  | false => simp

/-- the first that is free -/
def freeAt : List Cab → Option Nat
  | [] => none
  | c :: r => if c.busy then (freeAt r).map (· + 1) else some 0
theorem freeAt_some : ∀ (L : List Cab) (i : Nat), freeAt L = some i → ∃ c, L[i]? = some c ∧ c.busy = false ∧ ∀ (j : Nat) (x : Cab), j < i → L[j]? = some x → x.busy = true
  | [], i, h => by cases h
  | c :: r, i, h => by
    unfold freeAt at h
    cases hb : c.busy with
    | false =>
      rw [hb] at h
      simp at h
      subst h
      exact ⟨c, rfl, hb, fun j x hj => by omega⟩
    | true =>
      rw [hb] at h
      simp at h
      obtain ⟨k, hk, rfl⟩ := h
      obtain ⟨d, h1, h2, h3⟩ := freeAt_some r k hk
      refine ⟨d, by simpa using h1, h2, ?_⟩
      intro j x hj hx
      cases j with
      | zero => simp at hx; subst hx; exact hb
      | succ j => exact h3 j x (by omega) (by simpa using hx)
theorem freeAt_none : ∀ (L : List Cab), freeAt L = none → ∀ c ∈ L, c.busy = true
  | [], _ => by simp
  | c :: r, h => by
    unfold freeAt at h
    cases hb : c.busy with
    | false => rw [hb] at h; simp at h
    | true =>
      rw [hb] at h
      simp at h
      have := freeAt_none r h
      intro x hx
      rcases List.mem_cons.1 hx with rfl | hx
      · exact hb
      · exact this x hx

def takeC (L : List Cab) (o : Int) : (Int × Int) × List Cab :=
  if o < 0 then ((0, 1), L) else match freeAt L with
    | none => ((0, 6), L)
    | some i => (((i : Int), 0), match L[i]? with | some c => L.set i { c.ready with busy := true, owner := o } | none => L)
def freeC (L : List Cab) (i : Int) (again : Bool) : List Cab := match at? L i with
  | none => L
  | some c => if c.busy then L.set i.toNat (c.freed again) else L
def sendC (L : List Cab) (i : Int) (s : ByteArray) : Int × List Cab := match at? L i with
  | none => (1, L)
  | some c => if c.busy then (0, L.set i.toNat { c with out := c.out ++ s }) else (8, L)
def comeC (L : List Cab) (i : Int) (s : ByteArray) : Int × List Cab := match at? L i with
  | none => (1, L)
  | some c => if c.cut then (0, L) else if c.inn.size + s.size ≤ 16384 then (0, L.set i.toNat { c with inn := c.inn ++ s }) else (6, L)
def cutC (L : List Cab) (i : Int) : List Cab := match at? L i with
  | none => L
  | some c => L.set i.toNat { c with cut := true }
def drainC (L : List Cab) (i : Int) : ByteArray × List Cab := match at? L i with
  | none => (.empty, L)
  | some c => (c.out, L.set i.toNat { c with out := .empty })
def readC (L : List Cab) (i : Int) : (ByteArray × Bool) × List Cab := match at? L i with
  | none => ((.empty, false), L)
  | some c => ((c.inn, c.cut), L.set i.toNat { c with inn := .empty })

theorem cable_Take_all (b bl : Nat) (L : List Cab) (o : Int) (w : World) (hc : Cabs w b bl L) :
    Calls Try.prog 12 #[.pointer (some ⟨b, 0, none⟩), .int .i64 o] w fun e w' => e = .returned (.tuple #[.int .i64 (takeC L o).1.1, .int .i64 (takeC L o).1.2]) ∧ Cabs w' b bl (takeC L o).2 ∧ Keep [bl] w w' := by
  by_cases ho : o < 0
  · refine (cable_Take_arg _ o w ho (by simp)).mono ?_
    rintro e w' ⟨he, hk⟩
    rw [takeC, if_pos ho]
    exact ⟨he, hc.keep hk (by simp) (by simp), hk.mono (by simp)⟩
  · cases hf : freeAt L with
    | none =>
      refine (cable_Take_full b bl L o w hc (by omega) (freeAt_none L hf)).mono ?_
      rintro e w' ⟨he, hk⟩
      rw [takeC, if_neg ho, hf]
      exact ⟨he, hc.keep hk (by simp) (by simp), hk.mono (by simp)⟩
    | some i =>
      obtain ⟨c, h1, h2, h3⟩ := freeAt_some L i hf
      refine (cable_Take b bl L o w hc (by omega) i c h1 h2 h3).mono ?_
      rintro e w' ⟨he, hc', hk⟩
      rw [takeC, if_neg ho, hf]
      simp only [h1]
      exact ⟨he, hc', hk⟩

theorem cable_Free_all (b bl : Nat) (L : List Cab) (i : Int) (again : Bool) (w : World) (hc : Cabs w b bl L) :
    Calls Try.prog 14 #[.pointer (some ⟨b, 0, none⟩), .int .i64 i, .bool again] w fun e w' => e = .returned (.tuple #[]) ∧ Cabs w' b bl (freeC L i again) ∧ Keep [bl] w w' := by
  unfold freeC
  cases ha : at? L i with
  | none =>
    refine (cable_Free_no b bl L i again w hc (at?_none ha)).mono ?_
    rintro e w' ⟨he, hk⟩
    exact ⟨he, hc.keep hk (by simp) (by simp), hk.mono (by simp)⟩
  | some c =>
    obtain ⟨h0, h1, h2⟩ := at?_some ha
    cases hb : c.busy with
    | true =>
      refine (cable_Free_busy b bl L i again w hc h0 h1 c h2 hb).mono ?_
      rintro e w' ⟨he, hc', hk⟩
      dsimp only
      rw [if_pos hb]
      exact ⟨he, hc', hk⟩
    | false =>
      refine (cable_Free_idle b bl L i again w hc h0 h1 c h2 hb).mono ?_
      rintro e w' ⟨he, hk⟩
      dsimp only
      rw [if_neg (by simp [hb])]
      exact ⟨he, hc.keep hk (by simp) (by simp), hk.mono (by simp)⟩

theorem cable_Send_all (b bl : Nat) (L : List Cab) (i : Int) (s : ByteArray) (w : World) (hc : Cabs w b bl L) (hs : ∀ c ∈ L, c.out.size + s.size ≤ 9223372036854775807) :
    Calls Try.prog 26 #[.pointer (some ⟨b, 0, none⟩), .int .i64 i, .string s] w fun e w' => e = .returned (.int .i64 (sendC L i s).1) ∧ Cabs w' b bl (sendC L i s).2 ∧ Keep [bl] w w' := by
  unfold sendC
  cases ha : at? L i with
  | none =>
    refine (cable_Send_no b bl L i s w hc (at?_none ha)).mono ?_
    rintro e w' ⟨he, hk⟩
    exact ⟨he, hc.keep hk (by simp) (by simp), hk.mono (by simp)⟩
  | some c =>
    obtain ⟨h0, h1, h2⟩ := at?_some ha
    cases hb : c.busy with
    | true =>
      refine (cable_Send_busy b bl L i s w hc h0 h1 c h2 hb (hs c (List.mem_of_getElem? h2))).mono ?_
      rintro e w' ⟨he, hc', hk⟩
      dsimp only
      rw [if_pos hb]
      exact ⟨he, hc', hk⟩
    | false =>
      refine (cable_Send_idle b bl L i s w hc h0 h1 c h2 hb).mono ?_
      rintro e w' ⟨he, hk⟩
      dsimp only
      rw [if_neg (by simp [hb])]
      exact ⟨he, hc.keep hk (by simp) (by simp), hk.mono (by simp)⟩

theorem cable_Come_all (b bl : Nat) (L : List Cab) (i : Int) (s : ByteArray) (w : World) (hc : Cabs w b bl L) (hs : ∀ c ∈ L, c.inn.size ≤ 16384) (hm : s.size ≤ 9223372036854775807) :
    Calls Try.prog 29 #[.pointer (some ⟨b, 0, none⟩), .int .i64 i, .string s] w fun e w' => e = .returned (.int .i64 (comeC L i s).1) ∧ Cabs w' b bl (comeC L i s).2 ∧ Keep [bl] w w' := by
  unfold comeC
  cases ha : at? L i with
  | none =>
    refine (cable_Come_no b bl L i s w hc (at?_none ha)).mono ?_
    rintro e w' ⟨he, hk⟩
    exact ⟨he, hc.keep hk (by simp) (by simp), hk.mono (by simp)⟩
  | some c =>
    obtain ⟨h0, h1, h2⟩ := at?_some ha
    cases hb : c.cut with
    | true =>
      refine (cable_Come_cut b bl L i s w hc h0 h1 c h2 hb).mono ?_
      rintro e w' ⟨he, hk⟩
      dsimp only
      rw [if_pos hb]
      exact ⟨he, hc.keep hk (by simp) (by simp), hk.mono (by simp)⟩
    | false =>
      by_cases hz : c.inn.size + s.size ≤ 16384
      · refine (cable_Come_more b bl L i s w hc h0 h1 c h2 hb hz).mono ?_
        rintro e w' ⟨he, hc', hk⟩
        dsimp only
        rw [if_neg (by simp [hb]), if_pos hz]
        exact ⟨he, hc', hk⟩
      · refine (cable_Come_full b bl L i s w hc h0 h1 c h2 hb (hs c (List.mem_of_getElem? h2)) (by omega) hm).mono ?_
        rintro e w' ⟨he, hk⟩
        dsimp only
        rw [if_neg (by simp [hb]), if_neg hz]
        exact ⟨he, hc.keep hk (by simp) (by simp), hk.mono (by simp)⟩

theorem cable_Cut_all (b bl : Nat) (L : List Cab) (i : Int) (w : World) (hc : Cabs w b bl L) :
    Calls Try.prog 31 #[.pointer (some ⟨b, 0, none⟩), .int .i64 i] w fun e w' => e = .returned (.tuple #[]) ∧ Cabs w' b bl (cutC L i) ∧ Keep [bl] w w' := by
  unfold cutC
  cases ha : at? L i with
  | none =>
    refine (cable_Cut_no b bl L i w hc (at?_none ha)).mono ?_
    rintro e w' ⟨he, hk⟩
    exact ⟨he, hc.keep hk (by simp) (by simp), hk.mono (by simp)⟩
  | some c =>
    obtain ⟨h0, h1, h2⟩ := at?_some ha
    exact cable_Cut_yes b bl L i w hc h0 h1 c h2

theorem cable_Drain_all (b bl : Nat) (L : List Cab) (i : Int) (w : World) (hc : Cabs w b bl L) :
    Calls Try.prog 28 #[.pointer (some ⟨b, 0, none⟩), .int .i64 i] w fun e w' => e = .returned (.string (drainC L i).1) ∧ Cabs w' b bl (drainC L i).2 ∧ Keep [bl] w w' := by
  unfold drainC
  cases ha : at? L i with
  | none =>
    refine (cable_Drain_no b bl L i w hc (at?_none ha)).mono ?_
    rintro e w' ⟨he, hk⟩
    exact ⟨he, hc.keep hk (by simp) (by simp), hk.mono (by simp)⟩
  | some c =>
    obtain ⟨h0, h1, h2⟩ := at?_some ha
    exact cable_Drain_yes b bl L i w hc h0 h1 c h2

theorem cable_Read_all (b bl : Nat) (L : List Cab) (i : Int) (w : World) (hc : Cabs w b bl L) :
    Calls Try.prog 32 #[.pointer (some ⟨b, 0, none⟩), .int .i64 i] w fun e w' => e = .returned (.tuple #[.string (readC L i).1.1, .bool (readC L i).1.2]) ∧ Cabs w' b bl (readC L i).2 ∧ Keep [bl] w w' := by
  unfold readC
  cases ha : at? L i with
  | none =>
    refine (cable_Read_no b bl L i w hc (at?_none ha)).mono ?_
    rintro e w' ⟨he, hk⟩
    exact ⟨he, hc.keep hk (by simp) (by simp), hk.mono (by simp)⟩
  | some c =>
    obtain ⟨h0, h1, h2⟩ := at?_some ha
    exact cable_Read_yes b bl L i w hc h0 h1 c h2

/-! The document's pool, which is the image of the pool. -/
theorem toR_ready (c : Cab) (hb : c.busy = false) (o : Int) : ({ c.ready with busy := true, owner := o } : Cab).toR = { c.toR.ready with owner := o + 1 } := by
  by_cases h : c.inn.toList = [] ∧ c.cut = false
  · have e1 : c.ready = c := if_pos h
    have e2 : c.toR.ready = c.toR := if_pos h
    rw [e1, e2]; rfl
  · have e1 : c.ready = c.renew := if_neg h
    have e2 : c.toR.ready = c.toR.anew := if_neg h
    rw [e1, e2]; rfl
theorem toR_freed (c : Cab) (hb : c.busy = true) (again : Bool) : (c.freed again).toR = c.toR.freed again := by
  unfold Cab.freed Rcab.freed Cab.toR
  cases again <;> simp [Cab.renew, Rcab.anew]

theorem rcable_Take_all (b bl : Nat) (L : List Cab) (t : Nat) (hg : ∀ c ∈ L, c.good t) (o : Int) (ho2 : o < 4611686018427387904) (w : World) (hc : Rcabs w b bl (L.map Cab.toR)) :
    Calls Try.prog 24 #[.pointer (some ⟨b, 0, none⟩), .int .i64 o] w fun e w' => e = .returned (.tuple #[.int .i64 (takeC L o).1.1, .int .i64 (takeC L o).1.2]) ∧ Rcabs w' b bl ((takeC L o).2.map Cab.toR) ∧ Keep [bl] w w' := by
  by_cases ho : o < 0
  · refine (rcable_Take_arg _ o w ho).mono ?_
    rintro e w' ⟨he, hk⟩
    rw [takeC, if_pos ho]
    exact ⟨he, hc.keep hk (by simp) (by simp), hk.mono (by simp)⟩
  · cases hf : freeAt L with
    | none =>
      refine (rcable_Take_full b bl _ o w hc (by omega) ?_).mono ?_
      · intro r hr
        obtain ⟨c, hm, rfl⟩ := List.mem_map.1 hr
        rw [toR_owner (hg c hm), freeAt_none L hf c hm]
        rfl
      rintro e w' ⟨he, hk⟩
      rw [takeC, if_neg ho, hf]
      exact ⟨he, hc.keep hk (by simp) (by simp), hk.mono (by simp)⟩
    | some i =>
      obtain ⟨c, h1, h2, h3⟩ := freeAt_some L i hf
      refine (rcable_Take b bl _ o w hc (by omega) ho2 i c.toR (toR_get h1) (by rw [toR_owner (hg c (List.mem_of_getElem? h1)), h2]; rfl) ?_).mono ?_
      · intro j x hj hx
        simp at hx
        obtain ⟨d, hd, rfl⟩ := hx
        rw [toR_owner (hg d (List.mem_of_getElem? hd)), h3 j d hj hd]
        rfl
      rintro e w' ⟨he, hc', hk⟩
      rw [takeC, if_neg ho, hf]
      simp only [h1, List.map_set, toR_ready c h2]
      exact ⟨he, hc', hk⟩

theorem rcable_Free_all (b bl : Nat) (L : List Cab) (t : Nat) (hg : ∀ c ∈ L, c.good t) (i : Int) (again : Bool) (w : World) (hc : Rcabs w b bl (L.map Cab.toR)) :
    Calls Try.prog 25 #[.pointer (some ⟨b, 0, none⟩), .int .i64 i, .bool again] w fun e w' => e = .returned (.tuple #[]) ∧ Rcabs w' b bl ((freeC L i again).map Cab.toR) ∧ Keep [bl] w w' := by
  unfold freeC
  cases ha : at? L i with
  | none =>
    refine (rcable_Free_no b bl _ i again w hc (by simpa using at?_none ha)).mono ?_
    rintro e w' ⟨he, hk⟩
    exact ⟨he, hc.keep hk (by simp) (by simp), hk.mono (by simp)⟩
  | some c =>
    obtain ⟨h0, h1, h2⟩ := at?_some ha
    have hgc := hg c (List.mem_of_getElem? h2)
    cases hb : c.busy with
    | true =>
      refine (rcable_Free_busy b bl _ i again w hc h0 (by simpa using h1) c.toR (toR_get h2) (by rw [toR_owner hgc, hb]; rfl)).mono ?_
      rintro e w' ⟨he, hc', hk⟩
      dsimp only
      rw [if_pos hb, List.map_set, toR_freed c hb]
      exact ⟨he, hc', hk⟩
    | false =>
      refine (rcable_Free_idle b bl _ i again w hc h0 (by simpa using h1) c.toR (toR_get h2) (by rw [toR_owner hgc, hb]; rfl)).mono ?_
      rintro e w' ⟨he, hk⟩
      dsimp only
      rw [if_neg (by simp [hb])]
      exact ⟨he, hc.keep hk (by simp) (by simp), hk.mono (by simp)⟩

theorem rcable_Send_all (b bl : Nat) (L : List Cab) (t : Nat) (hg : ∀ c ∈ L, c.good t) (i : Int) (s : ByteArray) (w : World) (hc : Rcabs w b bl (L.map Cab.toR)) (hs : ∀ c ∈ L, c.out.size + s.size ≤ 9223372036854775807) :
    Calls Try.prog 27 #[.pointer (some ⟨b, 0, none⟩), .int .i64 i, .string s] w fun e w' => e = .returned (.int .i64 (sendC L i s).1) ∧ Rcabs w' b bl ((sendC L i s).2.map Cab.toR) ∧ Keep [bl] w w' := by
  unfold sendC
  cases ha : at? L i with
  | none =>
    refine (rcable_Send_no b bl _ i s w hc (by simpa using at?_none ha)).mono ?_
    rintro e w' ⟨he, hk⟩
    exact ⟨he, hc.keep hk (by simp) (by simp), hk.mono (by simp)⟩
  | some c =>
    obtain ⟨h0, h1, h2⟩ := at?_some ha
    have hgc := hg c (List.mem_of_getElem? h2)
    cases hb : c.busy with
    | true =>
      refine (rcable_Send_busy b bl _ i s w hc h0 (by simpa using h1) c.toR (toR_get h2) (by rw [toR_owner hgc, hb]; rfl) (hs c (List.mem_of_getElem? h2))).mono ?_
      rintro e w' ⟨he, hc', hk⟩
      dsimp only
      rw [if_pos hb]
      simp only [List.map_set]
      exact ⟨he, hc', hk⟩
    | false =>
      refine (rcable_Send_idle b bl _ i s w hc h0 (by simpa using h1) c.toR (toR_get h2) (by rw [toR_owner hgc, hb]; rfl)).mono ?_
      rintro e w' ⟨he, hk⟩
      dsimp only
      rw [if_neg (by simp [hb])]
      exact ⟨he, hc.keep hk (by simp) (by simp), hk.mono (by simp)⟩

theorem rcable_Come_all (b bl : Nat) (L : List Cab) (i : Int) (s : ByteArray) (w : World) (hc : Rcabs w b bl (L.map Cab.toR)) (hs : ∀ c ∈ L, c.inn.size ≤ 16384) (hm : s.size ≤ 9223372036854775807) :
    Calls Try.prog 30 #[.pointer (some ⟨b, 0, none⟩), .int .i64 i, .string s] w fun e w' => e = .returned (.int .i64 (comeC L i s).1) ∧ Rcabs w' b bl ((comeC L i s).2.map Cab.toR) ∧ Keep [bl] w w' := by
  unfold comeC
  cases ha : at? L i with
  | none =>
    refine (rcable_Come_no b bl _ i s w hc (by simpa using at?_none ha)).mono ?_
    rintro e w' ⟨he, hk⟩
    exact ⟨he, hc.keep hk (by simp) (by simp), hk.mono (by simp)⟩
  | some c =>
    obtain ⟨h0, h1, h2⟩ := at?_some ha
    cases hb : c.cut with
    | true =>
      refine (rcable_Come_cut b bl _ i s w hc h0 (by simpa using h1) c.toR (toR_get h2) hb).mono ?_
      rintro e w' ⟨he, hk⟩
      dsimp only
      rw [if_pos hb]
      exact ⟨he, hc.keep hk (by simp) (by simp), hk.mono (by simp)⟩
    | false =>
      by_cases hz : c.inn.size + s.size ≤ 16384
      · refine (rcable_Come_more b bl _ i s w hc h0 (by simpa using h1) c.toR (toR_get h2) hb hz).mono ?_
        rintro e w' ⟨he, hc', hk⟩
        dsimp only
        rw [if_neg (by simp [hb]), if_pos hz]
        simp only [List.map_set]
        exact ⟨he, hc', hk⟩
      · refine (rcable_Come_full b bl _ i s w hc h0 (by simpa using h1) c.toR (toR_get h2) hb (hs c (List.mem_of_getElem? h2)) (by show 16384 < c.inn.size + s.size; omega) hm).mono ?_
        rintro e w' ⟨he, hk⟩
        dsimp only
        rw [if_neg (by simp [hb]), if_neg hz]
        exact ⟨he, hc.keep hk (by simp) (by simp), hk.mono (by simp)⟩

/-! What each call keeps of the bounds. -/
theorem good_mono {c : Cab} {t t' : Nat} (h : c.good t) (ht : t ≤ t') : c.good t' := ⟨Nat.le_trans h.1 (Nat.mul_le_mul_left _ ht), h.2⟩
theorem good_set {L : List Cab} {t : Nat} (h : ∀ c ∈ L, c.good t) (i : Nat) (d : Cab) (hd : d.good (t + 1)) : ∀ c ∈ L.set i d, c.good (t + 1) := by
  intro c hc
  rcases List.mem_or_eq_of_mem_set hc with hm | rfl
  · exact good_mono (h c hm) (by omega)
  · exact hd
theorem ready_good {c : Cab} {t : Nat} (h : c.good t) (o : Int) (h0 : 0 ≤ o) (h1 : o < 4611686018427387904) : ({ c.ready with busy := true, owner := o } : Cab).good t := by
  unfold Cab.ready
  split
  · exact ⟨h.1, h.2.1, h0, h1⟩
  · exact ⟨by simp [Cab.renew], by simp [Cab.renew], h0, h1⟩
theorem takeC_good {L : List Cab} {t : Nat} (h : ∀ c ∈ L, c.good t) (o : Int) (ho : o < 4611686018427387904) : ∀ c ∈ (takeC L o).2, c.good (t + 1) := by
  have h' : ∀ c ∈ L, c.good (t + 1) := fun c hc => good_mono (h c hc) (by omega)
  unfold takeC
  split
  · exact h'
  · split
    · exact h'
    · split
      · rename_i c hc
        exact good_set h _ _ (good_mono (ready_good (h c (List.mem_of_getElem? hc)) o (by omega) ho) (by omega))
      · exact h'
theorem freeC_good {L : List Cab} {t : Nat} (h : ∀ c ∈ L, c.good t) (i : Int) (again : Bool) : ∀ c ∈ freeC L i again, c.good (t + 1) := by
  have h' : ∀ c ∈ L, c.good (t + 1) := fun c hc => good_mono (h c hc) (by omega)
  unfold freeC
  split
  · exact h'
  · rename_i c hc
    have hg := h c (List.mem_of_getElem? (at?_some hc).2.2)
    split
    · refine good_set h _ _ ?_
      cases again
      · exact ⟨by simp [Cab.freed, Cab.renew], by simp [Cab.freed, Cab.renew], by simp [Cab.freed, Cab.renew], by simp [Cab.freed, Cab.renew]⟩
      · exact ⟨by have := hg.1; simp [Cab.freed]; omega, hg.2.1, by simp [Cab.freed], by simp [Cab.freed]⟩
    · exact h'
theorem sendC_good {L : List Cab} {t : Nat} (h : ∀ c ∈ L, c.good t) (i : Int) (s : ByteArray) (hs : s.size ≤ 8192) : ∀ c ∈ (sendC L i s).2, c.good (t + 1) := by
  have h' : ∀ c ∈ L, c.good (t + 1) := fun c hc => good_mono (h c hc) (by omega)
  unfold sendC
  split
  · exact h'
  · rename_i c hc
    have hg := h c (List.mem_of_getElem? (at?_some hc).2.2)
    split
    · exact good_set h _ _ ⟨by have := hg.1; simp; omega, hg.2⟩
    · exact h'
theorem comeC_good {L : List Cab} {t : Nat} (h : ∀ c ∈ L, c.good t) (i : Int) (s : ByteArray) : ∀ c ∈ (comeC L i s).2, c.good (t + 1) := by
  have h' : ∀ c ∈ L, c.good (t + 1) := fun c hc => good_mono (h c hc) (by omega)
  unfold comeC
  split
  · exact h'
  · rename_i c hc
    have hg := h c (List.mem_of_getElem? (at?_some hc).2.2)
    split
    · exact h'
    · split
      · rename_i hz
        exact good_set h _ _ ⟨by have := hg.1; simp; omega, by simpa using hz, hg.2.2⟩
      · exact h'
theorem cutC_good {L : List Cab} {t : Nat} (h : ∀ c ∈ L, c.good t) (i : Int) : ∀ c ∈ cutC L i, c.good (t + 1) := by
  have h' : ∀ c ∈ L, c.good (t + 1) := fun c hc => good_mono (h c hc) (by omega)
  unfold cutC
  split
  · exact h'
  · rename_i c hc
    have hg := good_mono (h c (List.mem_of_getElem? (at?_some hc).2.2)) (show t ≤ t + 1 by omega)
    exact good_set h _ _ ⟨hg.1, hg.2⟩
theorem drainC_good {L : List Cab} {t : Nat} (h : ∀ c ∈ L, c.good t) (i : Int) : ∀ c ∈ (drainC L i).2, c.good (t + 1) := by
  have h' : ∀ c ∈ L, c.good (t + 1) := fun c hc => good_mono (h c hc) (by omega)
  unfold drainC
  split
  · exact h'
  · rename_i c hc
    have hg := good_mono (h c (List.mem_of_getElem? (at?_some hc).2.2)) (show t ≤ t + 1 by omega)
    exact good_set h _ _ ⟨by simp, hg.2⟩
theorem readC_good {L : List Cab} {t : Nat} (h : ∀ c ∈ L, c.good t) (i : Int) : ∀ c ∈ (readC L i).2, c.good (t + 1) := by
  have h' : ∀ c ∈ L, c.good (t + 1) := fun c hc => good_mono (h c hc) (by omega)
  unfold readC
  split
  · exact h'
  · rename_i c hc
    have hg := good_mono (h c (List.mem_of_getElem? (at?_some hc).2.2)) (show t ≤ t + 1 by omega)
    exact good_set h _ _ ⟨hg.1, by simp, hg.2.2⟩

theorem takeC_length (L : List Cab) (o : Int) : (takeC L o).2.length = L.length := by
  unfold takeC
  split
  · rfl
  · split
    · rfl
    · split <;> simp
theorem freeC_length (L : List Cab) (i : Int) (again : Bool) : (freeC L i again).length = L.length := by
  unfold freeC
  split
  · rfl
  · split <;> simp
theorem sendC_length (L : List Cab) (i : Int) (s : ByteArray) : (sendC L i s).2.length = L.length := by
  unfold sendC
  split
  · rfl
  · split <;> simp
theorem comeC_length (L : List Cab) (i : Int) (s : ByteArray) : (comeC L i s).2.length = L.length := by
  unfold comeC
  split
  · rfl
  · split
    · rfl
    · split <;> simp
theorem cutC_length (L : List Cab) (i : Int) : (cutC L i).length = L.length := by
  unfold cutC
  split <;> simp
theorem drainC_length (L : List Cab) (i : Int) : (drainC L i).2.length = L.length := by
  unfold drainC
  split <;> simp
theorem readC_length (L : List Cab) (i : Int) : (readC L i).2.length = L.length := by
  unfold readC
  split <;> simp
end Go.Proofs.Ytbfnpoknamajnaa
