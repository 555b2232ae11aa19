/-
  parameters: what Write tells, plain.
-/
import Derived.Test.YtampdiplodhkbaaPmRead
import Derived.Test.YtampdiplodhkbaaSoSorted
import Derived.Test.YtampdiplodhkbaaBld
namespace Go.Proofs.Ytampdiplodhkbaa
open Go.RowKit

/-- the value of an id, where there is one -/
def pbytes (p : PP) (x : Int) : Option (List UInt8) :=
  if x = 15 then some p.src.data.toList
  else if x = 12 then (if p.mig then some [] else none)
  else match pidx x with
    | none => none
    | some t => if p.N (nkey t) = (pfirst ⟨#[]⟩).N (nkey t) then none else some (vputS (p.N (nkey t)))
def pvals (p : PP) (x : Int) : Option Value := (pbytes p x).map str
def ppart (p : PP) (id : Nat) : List UInt8 := match pbytes p id with | none => [] | some v => pone id v
def pwrite (p : PP) : List UInt8 := (List.range 16).flatMap (ppart p)

theorem pbytes_range {p : PP} {x : Int} (h : (pbytes p x).isSome = true) : ∃ id : Nat, id < 16 ∧ x = id := by
  unfold pbytes at h
  split at h
  · exact ⟨15, by omega, by omega⟩
  · split at h
    · exact ⟨12, by omega, by omega⟩
    · split at h
      · cases h
      · rename_i t ht
        obtain ⟨h1, rfl⟩ := pidx_some ht
        have : t = 0 ∨ t = 1 ∨ t = 2 ∨ t = 3 ∨ t = 4 ∨ t = 5 ∨ t = 6 ∨ t = 7 ∨ t = 8 ∨ t = 9 ∨ t = 10 := by omega
        rcases this with rfl | rfl | rfl | rfl | rfl | rfl | rfl | rfl | rfl | rfl | rfl <;> exact ⟨_, by decide, rfl⟩
theorem sorted_unique {a b : List Int} (ha : a.Pairwise (· < ·)) (hb : b.Pairwise (· < ·)) (h : ∀ x, x ∈ a ↔ x ∈ b) : a = b := by
  have na : a.Nodup := ha.imp fun h => Int.ne_of_lt h
  have nb : b.Nodup := hb.imp fun h => Int.ne_of_lt h
  exact List.Perm.eq_of_pairwise (le := (· < ·)) (fun x y _ _ h1 h2 => by omega) ha hb ((List.perm_ext_iff_of_nodup na nb).2 h)
def pkeys (p : PP) : List Int := ((List.range 16).map Int.ofNat).filter fun x => (pbytes p x).isSome
theorem pkeys_eq {p : PP} {ss : List Int} (h : KeysOf (pvals p) ss) (hs : ss.Pairwise (· < ·)) : ss = pkeys p := by
  refine sorted_unique hs ?_ (fun x => ?_)
  · refine List.Pairwise.filter _ ?_
    rw [List.pairwise_map]
    exact List.pairwise_lt_range.imp fun h => Int.ofNat_lt.2 h
  · rw [h.2, pvals, Option.isSome_map, pkeys, List.mem_filter]
    constructor
    · intro hx
      obtain ⟨id, h1, rfl⟩ := pbytes_range hx
      exact ⟨List.mem_map.2 ⟨id, by simpa using h1, rfl⟩, hx⟩
    · exact fun hx => hx.2
theorem flatMap_filter_map (p : PP) (l : List Nat) : (((l.map Int.ofNat).filter fun x => (pbytes p x).isSome).flatMap fun x => ppart p x.toNat) = l.flatMap (ppart p) := by
  induction l with
  | nil => rfl
  | cons x l ih =>
    rw [List.map_cons, List.filter_cons, List.flatMap_cons]
    by_cases h : (pbytes p (Int.ofNat x)).isSome = true
    · rw [if_pos h, List.flatMap_cons, ih]; rfl
    · rw [if_neg h, ih]
      have : pbytes p (x : Int) = none := by simpa using h
      unfold ppart
      rw [this]; rfl
theorem pkeys_write (p : PP) : (pkeys p).flatMap (fun x => ppart p x.toNat) = pwrite p := flatMap_filter_map p _
theorem pkeys_at {p : PP} {x : Int} (h : x ∈ pkeys p) : ∃ (id : Nat) (v : List UInt8), x = id ∧ id < 16 ∧ pbytes p id = some v ∧ ppart p id = pone id v := by
  obtain ⟨h1, h2⟩ := List.mem_filter.1 h
  obtain ⟨id, h3, rfl⟩ := List.mem_map.1 h1
  obtain ⟨v, hv⟩ := Option.isSome_iff_exists.1 h2
  exact ⟨id, v, rfl, by simpa using h3, hv, by unfold ppart; rw [show (id : Int) = Int.ofNat id from rfl, hv]⟩
theorem pkeys_len (p : PP) : (pkeys p).length ≤ 16 := by
  unfold pkeys
  refine Nat.le_trans (List.length_filter_le _ _) (by simp)
theorem pbytes_le {p : PP} {x : Int} {v : List UInt8} (h : pbytes p x = some v) : v.length ≤ p.src.size + 8 := by
  have e : p.src.data.toList.length = p.src.size := Array.length_toList
  unfold pbytes at h
  split at h
  · cases h; omega
  · split at h
    · split at h
      · cases h; simp
      · cases h
    · split at h
      · cases h
      · split at h
        · cases h
        · cases h
          have := vputS_le (p.N (nkey ‹Nat›))
          omega
theorem pone_le (id : Nat) (v : List UInt8) : (pone id v).length ≤ v.length + 16 := by
  have h1 := vputS_le id
  have h2 := vputS_le v.length
  unfold pone
  simp; omega

theorem flat_le {α β : Type} (f : α → List β) (k : Nat) (l : List α) (h : ∀ x ∈ l, (f x).length ≤ k) : (l.flatMap f).length ≤ l.length * k := by
  induction l with
  | nil => simp
  | cons x l ih =>
    have h1 := h x (by simp)
    have h2 := ih (fun y hy => h y (by simp [hy]))
    rw [List.flatMap_cons, List.length_append, List.length_cons, Nat.succ_mul]
    omega
theorem ppart_le (p : PP) (id : Nat) : (ppart p id).length ≤ p.src.size + 24 := by
  unfold ppart
  split
  · simp
  · rename_i v hv
    have h1 := pone_le id v
    have h2 := pbytes_le hv
    omega
/-- what the map holds while numbers are told: those that are left are not in -/
def pvalsL (p : PP) (left : Int → Bool) (x : Int) : Option Value :=
  if x = 15 then some (str p.src.data.toList)
  else match pidx x with
    | none => none
    | some t => if left (nkey t) then none else if p.N (nkey t) = (pfirst ⟨#[]⟩).N (nkey t) then none else some (str (vputS (p.N (nkey t))))
theorem pvalsL_start (p : PP) (b : Nat) : pvalsL p (fun x => (numMap b x).isSome) = upd (fun _ => none) 15 (some (.string p.src)) := by
  funext x
  unfold pvalsL upd
  split
  · show some (Value.string _) = _; rw [eta_bytes]
  · cases h : pidx x with
    | none => rfl
    | some t =>
      simp only
      rw [if_pos]
      unfold numMap
      rw [pidx_key (pidx_some h).1]; rfl
theorem pvalsL_skip (p : PP) (left : Int → Bool) (t : Nat) (ht : t < 11) (h : p.N (nkey t) = (pfirst ⟨#[]⟩).N (nkey t)) : pvalsL p (fun z => left z && !(z == (nkey t : Int))) = pvalsL p left := by
  funext x
  unfold pvalsL
  split
  · rfl
  · cases hx : pidx x with
    | none => rfl
    | some s =>
      simp only
      by_cases e : (nkey s : Int) = nkey t
      · have e2 : s = t := by
          have := pidx_key (pidx_some hx).1
          rw [e, pidx_key ht] at this
          exact (Option.some.inj this).symm
        subst e2
        simp [h]
      · simp [e]
theorem pvalsL_take (p : PP) (left : Int → Bool) (t : Nat) (ht : t < 11) (h : p.N (nkey t) ≠ (pfirst ⟨#[]⟩).N (nkey t)) :
    upd (pvalsL p left) (nkey t) (some (str (vputS (p.N (nkey t))))) = pvalsL p (fun z => left z && !(z == (nkey t : Int))) := by
  funext x
  unfold upd
  by_cases e : x = nkey t
  · subst e
    rw [if_pos rfl]
    unfold pvalsL
    rw [if_neg (by have : t = 0 ∨ t = 1 ∨ t = 2 ∨ t = 3 ∨ t = 4 ∨ t = 5 ∨ t = 6 ∨ t = 7 ∨ t = 8 ∨ t = 9 ∨ t = 10 := by omega
                   rcases this with rfl | rfl | rfl | rfl | rfl | rfl | rfl | rfl | rfl | rfl | rfl <;> decide), pidx_key ht]
    simp [h]
  · rw [if_neg e]
    unfold pvalsL
    split
    · rfl
    · cases hx : pidx x with
      | none => rfl
      | some s =>
        simp only
        have e2 : (nkey s : Int) ≠ nkey t := fun e2 => e (by rw [(pidx_some hx).2, e2])
        simp [e2]
theorem pvalsL_done (p : PP) (left : Int → Bool) (h : ∀ x, left x = false) (x : Int) (hx : x ≠ 12) : pvalsL p left x = pvals p x := by
  unfold pvalsL pvals pbytes
  split
  · rfl
  · cases pidx x with
    | none => rfl
    | some s =>
      simp only [h]
      by_cases hh : p.N (nkey s) = (pfirst ⟨#[]⟩).N (nkey s) <;> simp [hh]
theorem pvalsL_12 (p : PP) (left : Int → Bool) : pvalsL p left 12 = none := rfl
theorem pvals_mig (p : PP) (left : Int → Bool) (h : ∀ x, left x = false) (hm : p.mig = true) : upd (pvalsL p left) 12 (some (.string ⟨#[]⟩)) = pvals p := by
  funext x
  unfold upd
  by_cases e : x = 12
  · subst e
    rw [if_pos rfl]
    unfold pvals pbytes
    simp [hm, str]
  · rw [if_neg e, pvalsL_done p left h x e]
theorem pvals_not (p : PP) (left : Int → Bool) (h : ∀ x, left x = false) (hm : p.mig = false) : pvalsL p left = pvals p := by
  funext x
  by_cases e : x = 12
  · subst e
    rw [pvalsL_12]
    unfold pvals pbytes
    simp [hm]
  · exact pvalsL_done p left h x e
theorem urow_form {w : World} {base n : Nat} {v : Value} {ss : List Int} (h : w.ownsRow base 23 1 v n (ss.map U)) :
    ∃ A cap, v = .slice A n cap ∧ n ≤ cap ∧ cap ≤ 9223372036854775807 ∧ ss.length = n ∧ ∀ j (hj : j < ss.length), ∃ g, A = some ⟨g, 0, none⟩ ∧ base ≤ g ∧ g < w.heap.size ∧ w.cell? ⟨g, j, none⟩ = some (.int .u64 ss[j]) := by
  have hl : ss.length = n := by have := h.1; simpa using this
  rcases h.2 with ⟨h0, hn⟩ | ⟨g, cap, cur, hv, hb, hg, h1, h2, h3, h4⟩
  · exact ⟨none, 0, by rw [h0, hn], by omega, by omega, hl, fun j hj => by omega⟩
  · refine ⟨_, cap, hv, h1, by simpa [maxLen] using h2, hl, fun j hj => ⟨g, rfl, hb, Blk.lt hg, ?_⟩⟩
    rw [Blk.cell hg j]
    have hj' : (ss.map U)[j]? = some (U ss[j]) := by simp [hj]
    rw [← h4, List.getElem?_take] at hj'
    split at hj'
    · simpa [U] using hj'
    · cases hj'
end Go.Proofs.Ytampdiplodhkbaa
