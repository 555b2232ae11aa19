/-
  json, plain: Get as a function; what awake looks at.
-/
import Derived.Test.YtkbpndohpkcikabDoorJsGet
import Derived.Test.YtkbpndohpkcikabDoorJsWrite
import Derived.Test.YtkbpndohpkcikabDoorJsRead
namespace Go.Proofs.YtkbpndohpkcikabDoor
open Go.RowKit Js
set_option linter.unusedVariables false
def jlook : List ByteArray → List JV → ByteArray → JV × Bool
  | [], _, _ => (jv0, false)
  | _, [], _ => (jv0, false)
  | k :: ks, x :: l, key => if k = key then (x, true) else jlook ks l key
def jget (v : JV) (key : ByteArray) : JV × Bool := if v.k = 6 ∧ jmay 8 v = true then jlook v.ks v.l key else (jv0, false)
theorem jlook_no : ∀ {ks : List ByteArray} {l : List JV} {key : ByteArray}, key ∉ ks → jlook ks l key = (jv0, false)
  | [], l, key, _ => by rw [jlook]
  | k :: ks, [], key, _ => by rw [jlook]; simp
  | k :: ks, x :: l, key, h => by
    rw [jlook, if_neg (fun e => h (by simp [e]))]
    exact jlook_no (fun hm => h (List.mem_cons_of_mem _ hm))
theorem jlook_at : ∀ {ks : List ByteArray} {l : List JV} {key : ByteArray} {j : Nat} {x : JV}, ks[j]? = some key → (∀ j', j' < j → ks[j']? ≠ some key) → l[j]? = some x → jlook ks l key = (x, true)
  | [], l, key, j, x, h, _, _ => by simp at h
  | k :: ks, [], key, j, x, _, _, h => by simp at h
  | k :: ks, y :: l, key, 0, x, h, _, hx => by
    rw [jlook, if_pos (by simpa using h)]
    simp at hx
    rw [hx]
  | k :: ks, y :: l, key, j + 1, x, h, hn, hx => by
    rw [jlook, if_neg (fun e => hn 0 (by omega) (by simp [e]))]
    exact jlook_at (by simpa using h) (fun j' hj => by have := hn (j' + 1) (by omega); simpa using this) (by simpa using hx)
theorem GetP.eq {v : JV} {key : ByteArray} {x : JV} {b : Bool} (h : GetP v key x b) : jget v key = (x, b) := by
  unfold jget
  rcases h with ⟨rfl, hk, hm, j, hj, hn, hx⟩ | ⟨rfl, rfl, h⟩
  · rw [if_pos ⟨hk, hm⟩]
    exact jlook_at hj hn hx
  · by_cases hc : v.k = 6 ∧ jmay 8 v = true
    · rw [if_pos hc]
      rcases h with h | h | h
      · exact absurd hc.1 h
      · rw [hc.2] at h; cases h
      · exact jlook_no h
    · rw [if_neg hc]

def awS : ByteArray := ⟨#[123, 34, 97, 34, 58, 91, 49, 44, 45, 50, 44, 34, 120, 92, 117, 48, 48, 101, 57, 34, 93, 44, 34, 98, 34, 58, 110, 117, 108, 108, 125]⟩
def awV : JV := .mk 6 0 ⟨#[]⟩ [.mk 5 0 ⟨#[]⟩ [.mk 3 1 ⟨#[]⟩ [] [], .mk 3 (-2) ⟨#[]⟩ [] [], .mk 4 0 ⟨#[120, 233]⟩ [] []] [], .mk 0 0 ⟨#[]⟩ [] []] [⟨#[97]⟩, ⟨#[98]⟩]
theorem awRead : jread awS.data.toList = (awV, 0, 0) := by kernel_rfl
theorem awRead2 : jread [91, 49, 44, 93] = (jv0, 3, 2) := by kernel_rfl
theorem awMay : jmay 8 awV = true := by kernel_rfl
theorem awMay7 : jmay 8 (.mk 7 0 ⟨#[]⟩ [] []) = false := by kernel_rfl
theorem awRng : jrng awV = true := by kernel_rfl
theorem awGet : jget awV ⟨#[98]⟩ = (.mk 0 0 ⟨#[]⟩ [] [], true) := by kernel_rfl
theorem awGet2 : jget awV ⟨#[99]⟩ = (jv0, false) := by kernel_rfl
theorem awSame : jsame awV awV = true := (jsame_iff _ _).2 rfl
theorem awSame2 : jsame awV (.mk 0 0 ⟨#[]⟩ [] []) = false := by kernel_rfl
theorem awWr : jwr awV = awS.data.toList := by
  have h1 : Lib.itoa 1 = [49] := by simp [Lib.itoa, Lib.decDigits]
  have h2 : Lib.itoa (-2) = [45, 50] := by simp [Lib.itoa, Lib.decDigits]
  have e1 : jwr (.mk 3 1 ⟨#[]⟩ [] []) = [49] := by rw [jwr, h1]; rfl
  have e2 : jwr (.mk 3 (-2) ⟨#[]⟩ [] []) = [45, 50] := by rw [jwr, h2]; rfl
  have e3 : jwr (.mk 5 0 ⟨#[]⟩ [.mk 3 1 ⟨#[]⟩ [] [], .mk 3 (-2) ⟨#[]⟩ [] [], .mk 4 0 ⟨#[120, 233]⟩ [] []] []) = [91, 49, 44, 45, 50, 44, 34, 120, 92, 117, 48, 48, 101, 57, 34, 93] := by
    rw [jwr, jwrs, jwrsR, jwrsR, jwrsR, e1, e2]
    kernel_rfl
  unfold awV
  rw [jwr, jwrs, jwrsR, jwrsR, e3]
  first | done | (show _ = _; kernel_rfl) | trace_state
end Go.Proofs.YtkbpndohpkcikabDoor
