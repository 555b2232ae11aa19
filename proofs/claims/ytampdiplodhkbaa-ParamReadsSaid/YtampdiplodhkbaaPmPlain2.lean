/-
  parameters, plain: what is written is read as it was, and is no longer than what was read.
-/
import Derived.Test.YtampdiplodhkbaaPmPlain
namespace Go.Proofs.Ytampdiplodhkbaa
open Go.RowKit

/-- ids and values, as they are written -/
def ilist (p : PP) : List (Nat × List UInt8) := (List.range 16).filterMap fun id : Nat => (pbytes p id).map fun v => (id, v)
def PP.Std (p : PP) : Prop := ∀ id : Nat, pidx id = none → p.N id = 0

theorem mem_ilist {p : PP} {x : Nat × List UInt8} : x ∈ ilist p ↔ pbytes p x.1 = some x.2 := by
  unfold ilist
  rw [List.mem_filterMap]
  constructor
  · rintro ⟨id, _, h⟩
    obtain ⟨v, hv, rfl⟩ := Option.map_eq_some_iff.1 h
    exact hv
  · intro h
    obtain ⟨id, h1, h2⟩ := pbytes_range (p := p) (x := x.1) (by rw [h]; rfl)
    have : x.1 = id := by omega
    exact ⟨x.1, by simp; omega, by rw [h]; rfl⟩
theorem filterMap_flat (p : PP) (l : List Nat) : flat (l.filterMap fun id : Nat => (pbytes p id).map fun v => (id, v)) = l.flatMap (ppart p) := by
  induction l with
  | nil => rfl
  | cons id l ih =>
    rw [List.filterMap_cons, List.flatMap_cons, ← ih]
    unfold ppart
    cases pbytes p id <;> rfl
theorem pwrite_flat (p : PP) : pwrite p = flat (ilist p) := (filterMap_flat p _).symm
theorem filterMap_ids (p : PP) (l : List Nat) : (l.filterMap fun id : Nat => (pbytes p id).map fun v => (id, v)).map (·.1) = l.filter fun id : Nat => (pbytes p id).isSome := by
  induction l with
  | nil => rfl
  | cons id l ih =>
    rw [List.filterMap_cons, List.filter_cons]
    cases pbytes p id <;> simp [ih]
theorem ilist_ids (p : PP) : (ilist p).map (·.1) = (List.range 16).filter fun id : Nat => (pbytes p id).isSome := filterMap_ids p _
theorem ilist_nodup (p : PP) : ((ilist p).map (·.1)).Nodup := by
  rw [ilist_ids]
  exact (List.filter_sublist).nodup List.nodup_range
theorem pbytes15 (p : PP) : pbytes p 15 = some p.src.data.toList := rfl
theorem may_parts {p : PP} (h : may p = true) : (∀ t, t < 11 → p.N (nkey t) < 4611686018427387904) ∧ p.src.size ≠ 0 ∧ p.src.size ≤ 20 := by
  unfold may at h
  simp only [Bool.and_eq_true, decide_eq_true_eq, List.all_eq_true, List.mem_range] at h
  obtain ⟨h1, h2⟩ := h
  refine ⟨fun t ht => ?_, h2.1.2, h2.2⟩
  have := h1 t ht
  unfold small at this
  simp at this
  omega
theorem nkey_lt (t : Nat) : nkey t < 15 := by unfold nkey; split <;> omega
theorem ilist_small {p : PP} (h : p.src.size ≤ 65536) : Small (ilist p) := by
  intro x hx
  rw [mem_ilist] at hx
  have h1 := pbytes_le hx
  obtain ⟨id, h2, h3⟩ := pbytes_range (p := p) (x := x.1) (by rw [hx]; rfl)
  exact ⟨by omega, by omega⟩
theorem pidx_not {id : Nat} {t : Nat} (h : pidx id = some t) : id ≠ 0 ∧ id ≠ 2 ∧ id ≠ 13 ∧ id ≠ 16 ∧ id ≠ 12 ∧ id ≠ 15 := by
  refine ⟨?_, ?_, ?_, ?_, ?_, ?_⟩ <;> (rintro rfl; cases h)
/-- which values there are -/
theorem pbytes_cases {p : PP} {id : Nat} {v : List UInt8} (h : pbytes p id = some v) :
    (id = 15 ∧ v = p.src.data.toList) ∨ (id = 12 ∧ p.mig = true ∧ v = []) ∨ (∃ t, pidx id = some t ∧ id = nkey t ∧ t < 11 ∧ p.N id ≠ (pfirst ⟨#[]⟩).N id ∧ v = vputS (p.N id)) := by
  unfold pbytes at h
  split at h
  · cases h; exact .inl ⟨by omega, rfl⟩
  · split at h
    · split at h
      · cases h; exact .inr (.inl ⟨by omega, by assumption, rfl⟩)
      · cases h
    · split at h
      · cases h
      · rename_i t ht
        split at h
        · cases h
        · rename_i hne
          cases h
          obtain ⟨h1, h2⟩ := pidx_some ht
          have e : id = nkey t := by omega
          rw [← e] at hne ⊢
          exact .inr (.inr ⟨t, ht, e, h1, hne, rfl⟩)
theorem okI_ilist {p : PP} (hm : may p = true) : ∀ x ∈ ilist p, okI x = true := by
  intro x hx
  rw [mem_ilist] at hx
  obtain ⟨h1, h2, h3⟩ := may_parts hm
  unfold okI PP.set
  rcases pbytes_cases hx with ⟨e, hv⟩ | ⟨e, _, hv⟩ | ⟨t, ht, e, hlt, hne, hv⟩
  · rw [if_neg (by omega), if_neg (by omega), if_pos e]
  · rw [if_neg (by omega), if_pos e, hv]; rfl
  · obtain ⟨n0, n2, n13, n16, n12, n15⟩ := pidx_not ht
    rw [if_neg (by omega), if_neg (by omega), if_neg (by omega), ht]
    have hb := h1 t hlt
    rw [← e] at hb
    have := short_put hb []
    rw [List.append_nil] at this
    simp [hv, vputS_eq hb, this]
theorem ilist_fold {p : PP} (hs : p.Std) (hm : may p = true) : (ilist p).foldl seti (pfirst ⟨#[]⟩) = p := by
  have hnd := ilist_nodup p
  obtain ⟨h1, h2, h3⟩ := may_parts hm
  refine PP.ext' (fun k => ?_) ?_ ?_
  · cases hk : pidx (k : Int) with
    | none =>
      rw [fold_N_out _ _ k (.inr (by rw [hk]; rfl)), hs k hk]
      unfold pfirst
      simp only
      rw [if_neg (by rintro rfl; cases hk), if_neg (by rintro rfl; cases hk), if_neg (by rintro rfl; cases hk), if_neg (by rintro rfl; cases hk)]
    | some t =>
      obtain ⟨ht, he⟩ := pidx_some hk
      have e : k = nkey t := by omega
      have hb := h1 t ht
      rw [← e] at hb
      obtain ⟨n0, n2, n13, n16, n12, n15⟩ := pidx_not hk
      by_cases hf : p.N k = (pfirst ⟨#[]⟩).N k
      · rw [fold_N_out, hf]
        refine .inl (fun x hx hxk => ?_)
        rw [mem_ilist] at hx
        rcases pbytes_cases hx with ⟨e1, hv⟩ | ⟨e1, _, hv⟩ | ⟨t', ht', e1, hlt, hne, hv⟩
        · omega
        · omega
        · rw [hxk] at hne; exact hne hf
      · have hmem : (k, vputS (p.N k)) ∈ ilist p := by
          rw [mem_ilist]
          show pbytes p (k : Int) = _
          unfold pbytes
          rw [if_neg (by omega), if_neg (by omega), hk]
          simp only
          rw [← e, if_neg hf]
        rw [fold_N_in _ _ _ hnd hmem (by show (pidx (k : Int)).isSome = true; rw [hk]; rfl)]
        have := short_put hb []
        rw [List.append_nil] at this
        simp only
        rw [vputS_eq hb, this]
  · rw [fold_mig]
    show (false || _) = _
    rw [Bool.false_or, Bool.eq_iff_iff, List.any_eq_true]
    constructor
    · rintro ⟨x, hx, e⟩
      rw [mem_ilist] at hx
      rcases pbytes_cases hx with ⟨e1, hv⟩ | ⟨e1, h4, hv⟩ | ⟨t, ht, e1, hlt, hne, hv⟩
      · simp at e; omega
      · exact h4
      · have := pidx_not ht
        simp at e; omega
    · intro h
      exact ⟨(12, []), by rw [mem_ilist]; unfold pbytes; simp [h], rfl⟩
  · rw [fold_src_in _ _ (15, p.src.data.toList) hnd (by rw [mem_ilist]; rfl) rfl]

/-- what is written is read as it was -/
theorem pread_write {p : PP} (hs : p.Std) (hm : may p = true) : pread (pwrite p) = some p := by
  unfold pread
  rw [pwrite_flat, pitems_flat' _ (ilist_small (by have := (may_parts hm).2.2; omega))]
  exact pall_some.2 ⟨ilist_nodup p, okI_ilist hm, (ilist_fold hs hm).symm, hm⟩
theorem pread_may {s : List UInt8} {q : PP} (h : pread s = some q) : may q = true := by
  unfold pread at h
  obtain ⟨l, _, hl⟩ := Option.bind_eq_some_iff.1 h
  exact (pall_some.1 hl).2.2.2
theorem pread_std {s : List UInt8} {q : PP} (h : pread s = some q) : q.Std := by
  unfold pread at h
  obtain ⟨l, _, hl⟩ := Option.bind_eq_some_iff.1 h
  obtain ⟨_, _, h3, _⟩ := pall_some.1 hl
  intro id hid
  rw [h3, fold_N_out _ _ _ (.inr (by rw [hid]; rfl))]
  unfold pfirst
  simp only
  rw [if_neg (by rintro rfl; cases hid), if_neg (by rintro rfl; cases hid), if_neg (by rintro rfl; cases hid), if_neg (by rintro rfl; cases hid)]

theorem sum_sub (l : List (Nat × List UInt8)) : ∀ m : List (Nat × List UInt8), l.Nodup → (∀ x ∈ l, x ∈ m) → (flat l).length ≤ (flat m).length := by
  induction l with
  | nil => intros; exact Nat.zero_le _
  | cons x l ih =>
    intro m hn h
    rw [List.nodup_cons] at hn
    have hx := h x (by simp)
    obtain ⟨a, b, rfl⟩ := List.append_of_mem hx
    have h2 := ih (a ++ b) hn.2 (fun y hy => by
      have := h y (by simp [hy])
      simp only [List.mem_append, List.mem_cons] at this ⊢
      rcases this with h1 | rfl | h1
      · exact .inl h1
      · exact absurd hy hn.1
      · exact .inr h1)
    rw [flat_append] at h2
    rw [flat_append, flat_cons, flat_cons]
    simp only [List.length_append] at h2 ⊢
    omega
theorem ilist_sub {l : List (Nat × List UInt8)} {q : PP} (h : pall l = some q) : ∀ x ∈ ilist q, x ∈ l := by
  obtain ⟨h1, h2, h3, h4⟩ := pall_some.1 h
  intro x hx
  rw [mem_ilist] at hx
  obtain ⟨id, v⟩ := x
  rcases pbytes_cases hx with ⟨e, hv⟩ | ⟨e, hmig, hv⟩ | ⟨t, ht, e, hlt, hne, hv⟩
  · simp only at e hv
    subst e
    by_cases hx : ∃ y ∈ l, y.1 = 15
    · obtain ⟨y, hy, ey⟩ := hx
      have := fold_src_in l (pfirst ⟨#[]⟩) y h1 hy ey
      rw [← h3] at this
      rw [hv, this]
      rw [← ey]
      exact hy
    · have := fold_src_out l (pfirst ⟨#[]⟩) (fun y hy e => hx ⟨y, hy, e⟩)
      rw [← h3] at this
      exact absurd (by rw [this]; rfl) (may_parts h4).2.1
  · simp only at e hv
    subst e hv
    have hm := fold_mig l (pfirst ⟨#[]⟩)
    rw [← h3, hmig] at hm
    have hm2 := hm.symm
    change (false || _) = true at hm2
    rw [Bool.false_or, List.any_eq_true] at hm2
    obtain ⟨y, hy, ey⟩ := hm2
    have ey : y.1 = 12 := by simpa using ey
    have ok := h2 y hy
    unfold okI PP.set at ok
    rw [if_neg (by omega), if_pos ey] at ok
    have : y.2 = [] := by simpa using ok
    rw [← ey, ← this]
    exact hy
  · simp only at ht e hne hv
    by_cases hx : ∃ y ∈ l, y.1 = id
    · obtain ⟨y, hy, ey⟩ := hx
      have hk : (pidx (y.1 : Int)).isSome = true := by rw [ey, ht]; rfl
      have hN := fold_N_in l (pfirst ⟨#[]⟩) y h1 hy hk
      rw [← h3, ey] at hN
      have ok := h2 y hy
      obtain ⟨n0, n2, n13, n16, n12, n15⟩ := pidx_not ht
      unfold okI PP.set at ok
      rw [if_neg (by omega), if_neg (by omega), if_neg (by omega), ey, ht] at ok
      simp only [Bool.and_eq_true] at ok
      obtain ⟨o1, o2⟩ := short_some ok.1
      have o3 : (short y.2).rest = [] := by simpa using ok.2
      rw [o3, List.append_nil, ← hN] at o1
      have : v = y.2 := by
        rw [hv, vputS_eq (by rw [hN]; exact o2)]
        exact o1.symm
      rw [this, ← ey]
      exact hy
    · have := fold_N_out l (pfirst ⟨#[]⟩) id (.inl (fun y hy e => hx ⟨y, hy, e⟩))
      rw [← h3] at this
      exact absurd this hne
/-- .. in no more bytes -/
theorem pread_length {s : List UInt8} {q : PP} (hl : s.length < 4611686018427387904) (h : pread s = some q) : (pwrite q).length ≤ s.length := by
  unfold pread at h
  obtain ⟨l, hi, hl2⟩ := Option.bind_eq_some_iff.1 h
  obtain ⟨e, _⟩ := pitems_back _ _ _ (Nat.le_refl _) hl hi
  rw [pwrite_flat, e]
  refine sum_sub _ _ ?_ (ilist_sub hl2)
  have := ilist_nodup q
  rw [List.nodup_iff_pairwise_ne, List.pairwise_map] at this
  rw [List.nodup_iff_pairwise_ne]
  exact this.imp fun h e => h (by rw [e])
end Go.Proofs.Ytampdiplodhkbaa
