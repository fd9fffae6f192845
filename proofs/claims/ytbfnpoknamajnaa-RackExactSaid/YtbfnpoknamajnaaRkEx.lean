/- Layer 21: what an act leaves; how many pins there can be. No conditions. -/
import Derived.Test.YtbfnpoknamajnaaRkSt
namespace Go.Proofs.Ytbfnpoknamajnaa
open Go.RowKit Go.Maps

def stE (L : List Jar) (x : Act21) : Int := if x.kind = 1 then putE L x.j else if x.kind = 2 then hereE L x.j.dig else if x.kind = 3 then pinE L x.j.dig else if x.kind = 4 then unpinE L x.j.dig else if x.kind = 5 then dropE L x.j.dig else 0
def stL (L : List Jar) (x : Act21) : List Jar := if x.kind = 1 then putL L x.j else if x.kind = 2 then touchL L x.j.dig else if x.kind = 3 then pinL L x.j.dig else if x.kind = 4 then unpinL L x.j.dig else if x.kind = 5 then dropL L x.j.dig else L
theorem pinsL_le {L : List Jar} {d : Dig} {n m : Int} (h : ∀ j ∈ L, j.pins ≤ m) (hn : n ≤ m) : ∀ j ∈ pinsL L d n, j.pins ≤ m := by
  intro j hj
  unfold pinsL at hj
  obtain ⟨y, hy, rfl⟩ := List.mem_map.1 hj
  split
  · exact hn
  · exact h y hy
theorem findL_mem {L : List Jar} {d : Dig} {x : Jar} (h : findL L d = some x) : x ∈ L := List.mem_of_find?_eq_some h
theorem stL_pins {L : List Jar} {x : Act21} {t : Int} (h0 : 0 ≤ t) (h : ∀ j ∈ L, j.pins ≤ t) : ∀ j ∈ stL L x, j.pins ≤ t + 1 := by
  have hw : ∀ j ∈ L, j.pins ≤ t + 1 := fun j hj => by have := h j hj; omega
  unfold stL
  split
  · unfold putL
    split
    · rename_i hp
      intro j hj
      rcases List.mem_cons.1 hj with rfl | hj
      · have hgood : goodJ x.j = true := by
          cases hgj : goodJ x.j with
          | true => rfl
          | false => unfold putE at hp; rw [if_pos hgj] at hp; omega
        unfold goodJ at hgood
        simp only [Bool.and_eq_true, decide_eq_true_eq] at hgood
        omega
      · exact hw j hj
    · exact hw
  · split
    · unfold touchL
      cases hf : findL L x.j.dig with
      | none => exact hw
      | some y =>
        intro j hj
        rcases List.mem_cons.1 hj with rfl | hj
        · exact hw _ (findL_mem hf)
        · exact hw j (rest_mem hj)
    · split
      · unfold pinL
        cases hf : findL L x.j.dig with
        | none => exact hw
        | some y =>
          dsimp only
          split
          · exact hw
          · exact pinsL_le hw (by have := h y (findL_mem hf); omega)
      · split
        · unfold unpinL
          cases hf : findL L x.j.dig with
          | none => exact hw
          | some y =>
            dsimp only
            split
            · exact hw
            · exact pinsL_le hw (by have := h y (findL_mem hf); omega)
        · split
          · unfold dropL
            cases hf : findL L x.j.dig with
            | none => exact hw
            | some y =>
              dsimp only
              split
              · exact hw
              · exact fun j hj => hw j (rest_mem hj)
          · exact hw
end Go.Proofs.Ytbfnpoknamajnaa
