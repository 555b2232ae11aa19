/-
  parameters, plain: what is written is read as it was; in which order doesn't matter; no id stands twice.
-/
import Derived.Test.YtampdiplodhkbaaPmWriteP
namespace Go.Proofs.Ytampdiplodhkbaa
open Go.RowKit

theorem short_put {n : Nat} (hn : n < 4611686018427387904) (r : List UInt8) : short (vput n ++ r) = ⟨n, r, true⟩ := by
  unfold short
  rw [vtake_put n hn r]
  have h1 : vsizeS n = vsize n := if_neg (by omega)
  simp [h1, vput_length]
theorem vputS_eq {n : Nat} (hn : n < 4611686018427387904) : vputS n = vput n := if_neg (by omega)
theorem short_some {s : List UInt8} (h : (short s).ok = true) : s = vput (short s).n ++ (short s).rest ∧ (short s).n < 4611686018427387904 := by
  have hn := short_n_lt s
  unfold short at h hn ⊢
  simp only [Bool.and_eq_true, decide_eq_true_eq, beq_iff_eq] at h hn ⊢
  obtain ⟨k, hk, hlen, hb, hs, hv⟩ := vtake_some (s := s) (n := (vtake s).n) (r := (vtake s).rest) (by rw [← h.1])
  have h1 : vsizeS (vtake s).n = vsize (vtake s).n := if_neg (by omega)
  have h2 := vlay_short hk (n := (vtake s).n) (by rw [h1] at h; omega)
  rw [h2] at hs
  exact ⟨hs, hb⟩

def flat (l : List (Nat × List UInt8)) : List UInt8 := l.flatMap fun x => pone x.1 x.2
def Small (l : List (Nat × List UInt8)) : Prop := ∀ x ∈ l, x.1 < 4611686018427387904 ∧ x.2.length < 4611686018427387904
theorem flat_append (a b : List (Nat × List UInt8)) : flat (a ++ b) = flat a ++ flat b := List.flatMap_append
theorem flat_cons (x : Nat × List UInt8) (l : List (Nat × List UInt8)) : flat (x :: l) = pone x.1 x.2 ++ flat l := rfl

theorem pone_short {id : Nat} {v : List UInt8} (h1 : id < 4611686018427387904) (h2 : v.length < 4611686018427387904) (r : List UInt8) :
    short (pone id v ++ r) = ⟨id, vput v.length ++ (v ++ r), true⟩ := by
  unfold pone
  rw [vputS_eq h1, vputS_eq h2, List.append_assoc, short_put h1, List.append_assoc]
theorem pone_ne (id : Nat) (v r : List UInt8) (h1 : id < 4611686018427387904) : pone id v ++ r ≠ [] := by
  unfold pone
  rw [vputS_eq h1]
  have := vput_ne id
  simp [this]
theorem pitems_pone {id : Nat} {v : List UInt8} (h1 : id < 4611686018427387904) (h2 : v.length < 4611686018427387904) (r : List UInt8) :
    pitems (pone id v ++ r) = (pitems r).map ((id, v) :: ·) := by
  rw [pitems_step (pone_ne id v r h1), pone_short h1 h2 r]
  simp only
  rw [short_put h2]
  have : ¬ (v.length + r.length < v.length) := by omega
  simp [this]
theorem pitems_flat (l : List (Nat × List UInt8)) (h : Small l) (r : List UInt8) : pitems (flat l ++ r) = (pitems r).map (l ++ ·) := by
  induction l with
  | nil => simp [flat]
  | cons x l ih =>
    obtain ⟨h1, h2⟩ := h x (by simp)
    rw [flat_cons, List.append_assoc, pitems_pone h1 h2, ih (fun y hy => h y (by simp [hy]))]
    cases pitems r <;> simp
theorem pitems_flat' (l : List (Nat × List UInt8)) (h : Small l) : pitems (flat l) = some l := by
  have := pitems_flat l h []
  rw [List.append_nil, pitems_nil] at this
  simpa using this
theorem pitems_back : ∀ (k : Nat) (s : List UInt8) (l : List (Nat × List UInt8)), s.length ≤ k → s.length < 4611686018427387904 → pitems s = some l → s = flat l ∧ Small l := by
  intro k
  induction k with
  | zero =>
    intro s l hk _ h
    obtain rfl := List.eq_nil_of_length_eq_zero (by omega : s.length = 0)
    rw [pitems_nil] at h
    cases h
    exact ⟨rfl, by intro x hx; cases hx⟩
  | succ k ih =>
    intro s l hk hlt h
    by_cases hs : s = []
    · subst hs
      rw [pitems_nil] at h
      cases h
      exact ⟨rfl, by intro x hx; cases hx⟩
    · rw [pitems_step hs] at h
      split at h
      · cases h
      · rename_i hc
        simp only [Bool.or_eq_true, Bool.not_eq_true', decide_eq_true_eq, not_or, Bool.not_eq_false, Nat.not_lt] at hc
        obtain ⟨⟨o1, o2⟩, hle⟩ := hc
        obtain ⟨l', hl', rfl⟩ := Option.map_eq_some_iff.1 h
        have h1 := short_rest_lt s hs
        have h2 := short_rest_le (short s).rest
        obtain ⟨e1, n1⟩ := short_some o1
        obtain ⟨e2, n2⟩ := short_some o2
        obtain ⟨e3, hsm⟩ := ih _ _ (by rw [List.length_drop]; omega) (by rw [List.length_drop]; omega) hl'
        have hln : ((short (short s).rest).rest.take (short (short s).rest).n).length = (short (short s).rest).n := by rw [List.length_take]; omega
        refine ⟨?_, ?_⟩
        · rw [flat_cons, ← e3]
          unfold pone
          simp only
          rw [hln, vputS_eq n1, vputS_eq n2, List.append_assoc, List.append_assoc, List.take_append_drop, ← e2, ← e1]
        · intro x hx
          rcases List.mem_cons.1 hx with rfl | hx
          · exact ⟨n1, by rw [hln]; exact n2⟩
          · exact hsm x hx

/-! ### set, one behind the other -/
def okI (x : Nat × List UInt8) : Bool := ((pfirst ⟨#[]⟩).set x.1 x.2).2
def seti (p : PP) (x : Nat × List UInt8) : PP := (p.set x.1 x.2).1
theorem set_snd (p : PP) (x : Nat × List UInt8) : (p.set x.1 x.2).2 = okI x := by
  unfold okI PP.set
  split
  · rfl
  · split
    · rfl
    · split
      · rfl
      · cases pidx x.1 <;> rfl
theorem pfold_some (l : List (Nat × List UInt8)) : ∀ (seen : List Nat) (p q : PP), pfold l seen p = some q ↔ (l.map (·.1)).Nodup ∧ (∀ x ∈ l, x.1 ∉ seen) ∧ (∀ x ∈ l, okI x = true) ∧ q = l.foldl seti p := by
  induction l with
  | nil =>
    intro seen p q
    show some p = some q ↔ _
    simp only [List.map_nil, List.nodup_nil, List.not_mem_nil, false_implies, implies_true, true_and, List.foldl_nil, Option.some.injEq]
    exact eq_comm
  | cons x l ih =>
    intro seen p q
    rw [pfold, set_snd]
    by_cases h1 : x.1 ∈ seen
    · simp [h1]
    · by_cases h2 : okI x = true
      · simp only [List.contains_eq_mem, h1, decide_false, Bool.false_eq_true, if_false, h2, if_true, ih, List.map_cons, List.nodup_cons, List.mem_cons, List.foldl_cons]
        constructor
        · rintro ⟨a, b, c, d⟩
          refine ⟨⟨fun hx => ?_, a⟩, ?_, ?_, d⟩
          · obtain ⟨y, hy, e⟩ := List.mem_map.1 hx
            exact b y hy (.inl e)
          · rintro y (rfl | hy)
            · exact h1
            · exact fun e => b y hy (.inr e)
          · rintro y (rfl | hy)
            · exact h2
            · exact c y hy
        · rintro ⟨⟨a, b⟩, c, d, e⟩
          refine ⟨b, fun y hy => ?_, fun y hy => d y (.inr hy), e⟩
          rintro (e2 | e2)
          · exact a (List.mem_map.2 ⟨y, hy, e2⟩)
          · exact c y (.inr hy) e2
      · simp [h1, h2]

theorem seti_N (p : PP) (x : Nat × List UInt8) (k : Nat) : (seti p x).N k = if x.1 = k ∧ (pidx k).isSome = true then (short x.2).n else p.N k := by
  unfold seti PP.set
  split
  · rename_i h
    rw [if_neg]
    rintro ⟨rfl, h2⟩
    rcases h with h | h | h | h <;> (rw [h] at h2; cases h2)
  · split
    · rename_i h
      rw [if_neg]
      rintro ⟨rfl, h2⟩
      rw [h] at h2; cases h2
    · split
      · rename_i h
        rw [if_neg]
        rintro ⟨rfl, h2⟩
        rw [h] at h2; cases h2
      · cases hp : pidx x.1 with
        | none =>
          rw [if_neg]
          rintro ⟨rfl, h2⟩
          rw [hp] at h2; cases h2
        | some t =>
          show (if k = x.1 then _ else _) = _
          by_cases e : k = x.1
          · subst e
            rw [if_pos rfl, if_pos ⟨rfl, by rw [hp]; rfl⟩]
          · rw [if_neg e, if_neg (fun h => e h.1.symm)]
theorem seti_mig (p : PP) (x : Nat × List UInt8) : (seti p x).mig = if x.1 = 12 then true else p.mig := by
  unfold seti PP.set
  split
  · rename_i h
    rw [if_neg]
    rintro h2
    omega
  · split
    · rfl
    · split
      · rfl
      · cases hp : pidx x.1 <;> rfl
theorem seti_src (p : PP) (x : Nat × List UInt8) : (seti p x).src = if x.1 = 15 then ⟨x.2.toArray⟩ else p.src := by
  unfold seti PP.set
  split
  · rename_i h
    rw [if_neg]
    rintro h2
    omega
  · split
    · rename_i h
      rw [if_neg (by omega)]
    · split
      · rename_i h
        simp
      · cases hp : pidx x.1 <;> rfl

theorem fold_N_out (l : List (Nat × List UInt8)) : ∀ (p : PP) (k : Nat), ((∀ x ∈ l, x.1 ≠ k) ∨ (pidx k).isSome = false) → (l.foldl seti p).N k = p.N k := by
  induction l with
  | nil => intros; rfl
  | cons x l ih =>
    intro p k h
    rw [List.foldl_cons, ih, seti_N, if_neg]
    · rintro ⟨h1, h2⟩
      rcases h with h | h
      · exact h x (by simp) h1
      · rw [h] at h2; cases h2
    · rcases h with h | h
      · exact .inl (fun y hy => h y (by simp [hy]))
      · exact .inr h
theorem fold_N_in (l : List (Nat × List UInt8)) : ∀ (p : PP) (x : Nat × List UInt8), (l.map (·.1)).Nodup → x ∈ l → (pidx x.1).isSome = true → (l.foldl seti p).N x.1 = (short x.2).n := by
  induction l with
  | nil => intro p x _ hx; cases hx
  | cons y l ih =>
    intro p x hn hx hk
    rw [List.map_cons, List.nodup_cons] at hn
    rw [List.foldl_cons]
    rcases List.mem_cons.1 hx with rfl | hx
    · rw [fold_N_out l _ _ (.inl (fun z hz e => hn.1 (List.mem_map.2 ⟨z, hz, e⟩))), seti_N, if_pos ⟨rfl, hk⟩]
    · exact ih _ x hn.2 hx hk
theorem fold_mig (l : List (Nat × List UInt8)) : ∀ (p : PP), (l.foldl seti p).mig = (p.mig || l.any fun x => x.1 == 12) := by
  induction l with
  | nil => intro p; simp
  | cons x l ih =>
    intro p
    rw [List.foldl_cons, ih, seti_mig, List.any_cons]
    by_cases h : x.1 = 12
    · simp [h]
    · have : (x.1 == 12) = false := by simpa using h
      rw [if_neg h, this, Bool.false_or]
theorem fold_src_out (l : List (Nat × List UInt8)) : ∀ (p : PP), (∀ x ∈ l, x.1 ≠ 15) → (l.foldl seti p).src = p.src := by
  induction l with
  | nil => intros; rfl
  | cons x l ih =>
    intro p h
    rw [List.foldl_cons, ih _ (fun y hy => h y (by simp [hy])), seti_src, if_neg (h x (by simp))]
theorem fold_src_in (l : List (Nat × List UInt8)) : ∀ (p : PP) (x : Nat × List UInt8), (l.map (·.1)).Nodup → x ∈ l → x.1 = 15 → (l.foldl seti p).src = ⟨x.2.toArray⟩ := by
  induction l with
  | nil => intro p x _ hx; cases hx
  | cons y l ih =>
    intro p x hn hx hk
    rw [List.map_cons, List.nodup_cons] at hn
    rw [List.foldl_cons]
    rcases List.mem_cons.1 hx with rfl | hx
    · rw [fold_src_out l _ (fun z hz e => hn.1 (List.mem_map.2 ⟨z, hz, by rw [e, hk]⟩)), seti_src, if_pos hk]
    · exact ih _ x hn.2 hx hk
theorem PP.ext' {p q : PP} (h1 : ∀ k, p.N k = q.N k) (h2 : p.mig = q.mig) (h3 : p.src = q.src) : p = q := by
  obtain ⟨a, b, c⟩ := p
  obtain ⟨d, e, f⟩ := q
  simp only at h1 h2 h3
  rw [h2, h3, funext h1]
/-- the same items, in whatever order, set the same -/
theorem fold_same {l m : List (Nat × List UInt8)} (p : PP) (hl : (l.map (·.1)).Nodup) (hm : (m.map (·.1)).Nodup) (h : ∀ x, x ∈ l ↔ x ∈ m) : l.foldl seti p = m.foldl seti p := by
  refine PP.ext' (fun k => ?_) ?_ ?_
  · by_cases hk : (pidx k).isSome = true
    · by_cases hx : ∃ x ∈ l, x.1 = k
      · obtain ⟨x, hx, rfl⟩ := hx
        rw [fold_N_in l p x hl hx hk, fold_N_in m p x hm ((h x).1 hx) hk]
      · rw [fold_N_out l p k (.inl (fun x hx' e => hx ⟨x, hx', e⟩)), fold_N_out m p k (.inl (fun x hx' e => hx ⟨x, (h x).2 hx', e⟩))]
    · rw [fold_N_out l p k (.inr (by simpa using hk)), fold_N_out m p k (.inr (by simpa using hk))]
  · rw [fold_mig, fold_mig]
    congr 1
    rw [Bool.eq_iff_iff, List.any_eq_true, List.any_eq_true]
    exact ⟨fun ⟨x, a, b⟩ => ⟨x, (h x).1 a, b⟩, fun ⟨x, a, b⟩ => ⟨x, (h x).2 a, b⟩⟩
  · by_cases hx : ∃ x ∈ l, x.1 = 15
    · obtain ⟨x, hx, e⟩ := hx
      rw [fold_src_in l p x hl hx e, fold_src_in m p x hm ((h x).1 hx) e]
    · rw [fold_src_out l p (fun x hx' e => hx ⟨x, hx', e⟩), fold_src_out m p (fun x hx' e => hx ⟨x, (h x).2 hx', e⟩)]
theorem pall_some {l : List (Nat × List UInt8)} {q : PP} : pall l = some q ↔ (l.map (·.1)).Nodup ∧ (∀ x ∈ l, okI x = true) ∧ q = l.foldl seti (pfirst ⟨#[]⟩) ∧ may q = true := by
  unfold pall
  cases h : pfold l [] (pfirst ⟨#[]⟩) with
  | none =>
    simp only [Option.bind_none, reduceCtorEq, false_iff]
    rintro ⟨h1, h2, h3, _⟩
    have := (pfold_some l [] (pfirst ⟨#[]⟩) q).2 ⟨h1, by simp, h2, h3⟩
    rw [h] at this; cases this
  | some r =>
    obtain ⟨h1, _, h2, h3⟩ := (pfold_some l [] (pfirst ⟨#[]⟩) r).1 h
    simp only [Option.bind_some]
    constructor
    · intro hq
      split at hq
      · cases hq; rename_i hm; exact ⟨h1, h2, h3, hm⟩
      · cases hq
    · rintro ⟨_, _, h4, h5⟩
      obtain rfl : q = r := by rw [h4, h3]
      rw [if_pos h5]
theorem pall_perm {l m : List (Nat × List UInt8)} (h : l.Perm m) : pall l = pall m := by
  have key : ∀ {l m : List (Nat × List UInt8)} {q : PP}, l.Perm m → pall l = some q → pall m = some q := fun {l m q} h hl => by
    obtain ⟨h1, h2, h3, h4⟩ := pall_some.1 hl
    have hn := (h.map (·.1)).nodup_iff.1 h1
    exact pall_some.2 ⟨hn, fun x hx => h2 x (h.mem_iff.2 hx), h3.trans (fold_same _ h1 hn (fun x => h.mem_iff)), h4⟩
  cases hl : pall l with
  | some q => rw [key h hl]
  | none =>
    cases hm : pall m with
    | none => rfl
    | some q => rw [key h.symm hm] at hl; cases hl
/-- an id that isn't known is no matter -/
theorem pall_unknown {l : List (Nat × List UInt8)} {q : PP} (h : pall l = some q) (id : Nat) (v : List UInt8) (hid : 16 < id) (hl : ∀ x ∈ l, x.1 ≤ 16) : pall ((id, v) :: l) = some q := by
  obtain ⟨h1, h2, h3, h4⟩ := pall_some.1 h
  have hp : pidx (id : Int) = none := by
    cases hp : pidx (id : Int) with
    | none => rfl
    | some t =>
      obtain ⟨ht, he⟩ := pidx_some hp
      have : nkey t ≤ 16 := by
        unfold nkey
        split <;> omega
      omega
  have hs : ∀ p : PP, p.set id v = (p, true) := fun p => by
    unfold PP.set
    rw [if_neg (by omega), if_neg (by omega), if_neg (by omega), hp]
  refine pall_some.2 ⟨?_, ?_, ?_, h4⟩
  · rw [List.map_cons, List.nodup_cons]
    refine ⟨fun hx => ?_, h1⟩
    obtain ⟨x, hx, e⟩ := List.mem_map.1 hx
    have := hl x hx
    simp at e
    omega
  · intro x hx
    rcases List.mem_cons.1 hx with rfl | hx
    · unfold okI; rw [hs]
    · exact h2 x hx
  · rw [List.foldl_cons, h3]
    congr 1
    unfold seti
    rw [hs]
/-- no id stands twice -/
theorem pall_twice {l : List (Nat × List UInt8)} (h : ¬ (l.map (·.1)).Nodup) : pall l = none := by
  cases hl : pall l with
  | none => rfl
  | some q => exact absurd (pall_some.1 hl).1 h
end Go.Proofs.Ytampdiplodhkbaa
