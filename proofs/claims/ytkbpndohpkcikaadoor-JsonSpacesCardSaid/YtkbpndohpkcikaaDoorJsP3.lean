/-
  json, plain: spaces ahead and behind.
-/
import Derived.Test.YtkbpndohpkcikaaDoorJsP2
set_option linter.unusedSimpArgs false
set_option linter.unusedVariables false
namespace Go.Proofs.YtkbpndohpkcikaaDoor.Js
open Go
/-! ### spaces behind -/
structure SpaAt {α : Type} (P : Pa α) (s : List UInt8) : Prop where
  ok : ∀ v r z, z.all isSp = true → P s = .ok v r → ∃ r', P (s ++ z) = .ok v r' ∧ (r ≠ [] → r' = r ++ z) ∧ (r = [] → r'.all isSp = true)
  er : ∀ r z, z.all isSp = true → P s = .er r → ∃ r', P (s ++ z) = .er r' ∧ (r ≠ [] → r' = r ++ z)
def Spa {α : Type} (P : Pa α) : Prop := ∀ s, SpaAt P s
theorem SpaAt.bind {α β : Type} {P : Pa α} {Q : α → Pa β} {s : List UInt8} (hp : SpaAt P s) (hg : ∀ v r, P s = .ok v r → GoodAt (Q v) r) (hq : ∀ v r, P s = .ok v r → SpaAt (Q v) r) : SpaAt (fun s => (P s).bind Q) s := by
  refine ⟨fun w r z hz h => ?_, fun r z hz h => ?_⟩
  · obtain ⟨v, k, h1, h2⟩ := bind_ok h
    obtain ⟨k', h3, h4, h5⟩ := hp.ok v k z hz h1
    show ∃ r', (P (s ++ z)).bind Q = _ ∧ _
    rw [h3]
    by_cases hk : k = []
    · subst hk
      obtain ⟨r', h6, h7, h8⟩ := (hq v [] h1).ok w r k' (h5 rfl) h2
      have hr : r = [] := by
        have := (hg v [] h1).le h2
        exact List.eq_nil_of_length_eq_zero (by simpa using this)
      exact ⟨r', h6, fun h => absurd hr h, h8⟩
    · rw [h4 hk]
      exact (hq v k h1).ok w r z hz h2
  · show ∃ r', (P (s ++ z)).bind Q = _ ∧ _
    cases hP : P s with
    | er e =>
      simp only [hP] at h
      cases h
      obtain ⟨r', h3, h4⟩ := hp.er r z hz hP
      rw [h3]
      exact ⟨r', rfl, h4⟩
    | ok v k =>
      simp only [hP] at h
      obtain ⟨k', h3, h4, h5⟩ := hp.ok v k z hz hP
      rw [h3]
      by_cases hk : k = []
      · subst hk
        obtain ⟨r', h6, h7⟩ := (hq v [] hP).er r k' (h5 rfl) h
        have hr : r = [] := by
          obtain ⟨p, e, _⟩ := (hg v [] hP).er r h
          exact (List.append_eq_nil_iff.1 e.symm).2
        exact ⟨r', h6, fun h => absurd hr h⟩
      · rw [h4 hk]
        exact (hq v k hP).er r z hz h
theorem Spa.bind {α β : Type} {P : Pa α} {Q : α → Pa β} (hp : Spa P) (hg : ∀ v, Good (Q v)) (hq : ∀ v, Spa (Q v)) : Spa (fun s => (P s).bind Q) := fun s => (hp s).bind (fun v r _ => (hg v).at_ r) (fun v r _ => hq v r)
theorem Spa.pure {α : Type} (v : α) : Spa (fun s => PR.ok v s) := by
  refine fun s => ⟨fun w r z hz h => ?_, (fun r z _ h => by cases h)⟩
  cases h
  exact ⟨s ++ z, rfl, fun _ => rfl, fun h => by rw [h]; exact hz⟩
theorem SpaAt.take (p : UInt8 → Bool) (c : UInt8) (t : List UInt8) : SpaAt (jtake p) (c :: t) := by
  refine ⟨fun w r z hz h => ?_, fun r z hz h => ?_⟩
  · obtain ⟨e, h1⟩ := take_ok h
    cases e
    refine ⟨t ++ z, ?_, fun _ => rfl, fun h => by rw [h]; exact hz⟩
    rw [List.cons_append, jtake, if_pos h1]
  · rw [jtake] at h
    split at h
    · cases h
    · rename_i hc
      cases h
      exact ⟨c :: (t ++ z), by rw [List.cons_append, jtake, if_neg hc], fun _ => rfl⟩
theorem Spa.take {p : UInt8 → Bool} (hp : ∀ c, isSp c = true → p c = false) : Spa (jtake p)
  | c :: t => SpaAt.take p c t
  | [] => by
    refine ⟨(fun w r z hz h => by cases h), fun r z hz h => ?_⟩
    cases h
    cases z with
    | nil => exact ⟨[], rfl, fun h => absurd rfl h⟩
    | cons c t =>
      simp only [List.all_cons, Bool.and_eq_true] at hz
      exact ⟨c :: t, by rw [List.nil_append, jtake, if_neg (by rw [hp c hz.1]; decide)], fun h => absurd rfl h⟩
theorem sp_cases {c : UInt8} (h : isSp c = true) : c = 32 ∨ c = 9 ∨ c = 10 ∨ c = 13 := by
  unfold isSp at h
  simp only [Bool.or_eq_true, beq_iff_eq] at h
  rcases h with ((h | h) | h) | h
  · exact .inl h
  · exact .inr (.inl h)
  · exact .inr (.inr (.inl h))
  · exact .inr (.inr (.inr h))
theorem ref {p : UInt8 → Bool} (h : p 32 = false ∧ p 9 = false ∧ p 10 = false ∧ p 13 = false) : ∀ c, isSp c = true → p c = false := by
  intro c hc
  rcases sp_cases hc with rfl | rfl | rfl | rfl
  · exact h.1
  · exact h.2.1
  · exact h.2.2.1
  · exact h.2.2.2
theorem Spa.word : ∀ (w : List UInt8), (w.all fun c => !isSp c) = true → Spa (jword w)
  | [], _ => Spa.pure ()
  | c :: w, h => by
    simp only [List.all_cons, Bool.and_eq_true] at h
    refine Spa.bind (Spa.take fun x hx => ?_) (fun _ => Good.word w) (fun _ => Spa.word w h.2)
    by_cases e : x = c
    · subst e; rw [hx] at h; cases h.1
    · simpa using e
theorem Spa.if_ {α : Type} {P Q : Pa α} {b : Prop} [Decidable b] (hp : Spa P) (hq : Spa Q) : Spa (fun s => if b then P s else Q s) := by
  by_cases h : b
  · simpa [h] using hp
  · simpa [h] using hq
theorem Spa.esc : Spa jesc := by
  have g : ∀ c, Good (fun r => match unsign c with
    | some b => PR.ok b r
    | none => (jtake (· == 48) r).bind fun _ r => (jtake (· == 48) r).bind fun _ r => (jtake isHex r).bind fun h r => (jtake isHex r).bind fun l r => .ok (hexv h <<< 4 ||| hexv l) r) := fun c => by
    cases unsign c with
    | some b => exact Good.pure b
    | none => exact (Good.take _).bind fun _ => (Good.take _).bind fun _ => (Good.take _).bind fun _ => (Good.take _).bind fun _ => Good.pure _
  refine Spa.bind (Spa.take (ref (by decide))) g fun c => ?_
  cases unsign c with
  | some b => exact Spa.pure b
  | none =>
    exact (Spa.take (ref (by decide))).bind (fun _ => (Good.take _).bind fun _ => (Good.take _).bind fun _ => (Good.take _).bind fun _ => Good.pure _) fun _ =>
      (Spa.take (ref (by decide))).bind (fun _ => (Good.take _).bind fun _ => (Good.take _).bind fun _ => Good.pure _) fun _ =>
      (Spa.take (ref (by decide))).bind (fun _ => (Good.take _).bind fun _ => Good.pure _) fun _ =>
      (Spa.take (ref (by decide))).bind (fun _ => Good.pure _) fun _ => Spa.pure _
theorem Spa.escq (c : UInt8) : Spa (fun t => if c = 92 then jesc t else PR.ok c t) := Spa.if_ Spa.esc (Spa.pure c)
theorem txt_sp : ∀ z : List UInt8, z.all isSp = true → ∃ r', jtxtT z = .er r'
  | [], _ => ⟨[], rfl⟩
  | c :: t, h => by
    simp only [List.all_cons, Bool.and_eq_true] at h
    obtain ⟨r', h1⟩ := txt_sp t h.2
    rw [jtxtT_eq]
    rcases sp_cases h.1 with rfl | rfl | rfl | rfl
    · refine ⟨r', ?_⟩
      simp [jtake, pri, PR.bind, h1]
    · exact ⟨_, rfl⟩
    · exact ⟨_, rfl⟩
    · exact ⟨_, rfl⟩
theorem SpaAt.txt (n : Nat) : ∀ s : List UInt8, s.length < n → SpaAt jtxtT s := by
  induction n with
  | zero => intro s h; omega
  | succ n ih =>
    intro s h
    cases s with
    | nil =>
      refine ⟨(fun v r z hz h => by cases h), fun r z hz h => ?_⟩
      cases h
      obtain ⟨r', h1⟩ := txt_sp z hz
      exact ⟨r', h1, fun h => absurd rfl h⟩
    | cons c t =>
      rw [jtxtT_eq]
      have g2 : ∀ c : UInt8, Good (fun t => if c = 34 then PR.ok [] t else (if c = 92 then jesc t else .ok c t).bind fun b r => (jtxtT r).bind fun l r => .ok (b :: l) r) := fun c =>
        Good.if_ (Good.pure _) ((Good.escq c).bind fun b => Good.txt.bind fun l => Good.pure _)
      refine SpaAt.bind (SpaAt.take pri c t) (fun v r _ => (g2 v).at_ r) (fun v r hv => ?_)
      obtain ⟨e, _⟩ := take_ok hv
      cases e
      by_cases hc : c = 34
      · simp only [if_pos hc]; exact Spa.pure _ t
      · simp only [if_neg hc]
        refine SpaAt.bind (Spa.escq c t) (fun b r _ => (Good.txt.bind fun l => Good.pure (b :: l)).at_ r) (fun b r hb => ?_)
        have := ((Good.escq c).at_ t).le hb
        simp only [List.length_cons] at h
        exact SpaAt.bind (ih r (by omega)) (fun l r _ => (Good.pure _).at_ r) (fun l r _ => Spa.pure _ r)
theorem Spa.txt : Spa jtxtT := fun s => SpaAt.txt _ s (Nat.lt_succ_self _)
theorem Spa.text : Spa jtext := (Spa.take (ref (by decide))).bind (fun _ => Good.txt) (fun _ => Spa.txt)
theorem dw_behind (f : UInt8 → Bool) : ∀ (s z : List UInt8), s.dropWhile f ≠ [] → (s ++ z).dropWhile f = s.dropWhile f ++ z ∧ (s ++ z).takeWhile f = s.takeWhile f
  | [], z, h => absurd rfl h
  | c :: t, z, h => by
    by_cases hc : f c = true
    · simp only [List.cons_append, List.dropWhile_cons, List.takeWhile_cons, hc, if_true] at h ⊢
      obtain ⟨h1, h2⟩ := dw_behind f t z h
      exact ⟨h1, by rw [h2]⟩
    · simp [List.dropWhile_cons, List.takeWhile_cons, hc]
theorem dw_all (f : UInt8 → Bool) : ∀ (s : List UInt8), s.dropWhile f = [] → s.all f = true
  | [], _ => rfl
  | c :: t, h => by
    by_cases hc : f c = true
    · simp only [List.dropWhile_cons, hc, if_true] at h
      simp only [List.all_cons, hc, Bool.true_and]
      exact dw_all f t h
    · simp [List.dropWhile_cons, hc] at h
theorem all_dw (f : UInt8 → Bool) : ∀ (s : List UInt8), s.all f = true → s.dropWhile f = []
  | [], _ => rfl
  | c :: t, h => by
    simp only [List.all_cons, Bool.and_eq_true] at h
    simp only [List.dropWhile_cons, h.1, if_true]
    exact all_dw f t h.2
theorem Spa.sp : Spa (fun s => PR.ok () (jsp s)) := by
  refine fun s => ⟨fun w r z hz h => ?_, (fun r z _ h => by cases h)⟩
  cases h
  refine ⟨jsp (s ++ z), rfl, fun hr => (dw_behind isSp s z hr).1, fun hr => ?_⟩
  have h1 := dw_all isSp s hr
  have : jsp (s ++ z) = [] := all_dw isSp _ (by rw [List.all_append, h1, hz]; rfl)
  rw [this]; rfl
theorem Spa.ofsp {α : Type} {P : Pa α} (hg : Good P) (h : Spa P) : Spa (fun s => P (jsp s)) := Spa.sp.bind (fun _ => hg) (fun _ => h)
theorem Spa.key : Spa jkey := by
  have h : Spa (fun s => ((fun s => jtext (jsp s)) s).bind fun k r => ((fun r => (jtake (· == 58) (jsp r))) r).bind fun _ r => PR.ok k r) :=
    (Spa.ofsp Good.text Spa.text).bind (fun k => (Good.take _).ofsp.bind fun _ => Good.pure k) fun k => (Spa.ofsp (Good.take _) (Spa.take (ref (by decide)))).bind (fun _ => Good.pure k) fun _ => Spa.pure k
  exact h
theorem Spa.front (obj : Bool) : Spa (jfront obj) := by
  cases obj with
  | true => exact Spa.key.bind (fun k => Good.pure [k]) fun k => Spa.pure [k]
  | false => exact Spa.pure []
theorem Good.endm {P : Pa JV} (hP : Good P) (obj : Bool) (k : List (List UInt8)) (v : JV) (c : UInt8) : Good (fun r => if (c == (if obj then 125 else 93)) = true then PR.ok ([v], k) r else (jmanyT P obj r).bind fun x r => .ok (v :: x.1, k ++ x.2) r) :=
  Good.if_ (Good.pure _) ((Good.many hP obj).bind fun x => Good.pure _)
theorem SpaAt.many {P : Pa JV} (hP : Good P) (sP : Spa P) (obj : Bool) (n : Nat) : ∀ s : List UInt8, s.length < n → SpaAt (jmanyT P obj) s := by
  induction n with
  | zero => intro s h; omega
  | succ n ih =>
    intro s h
    rw [jmanyT_eq hP]
    refine SpaAt.bind (Spa.front obj s) (fun k r _ => (hP.bind fun v => (Good.take _).bind fun c => Good.endm hP obj k v c).at_ r) (fun k r1 h1 => ?_)
    have l1 := ((Good.front obj).at_ s).le h1
    refine SpaAt.bind (sP r1) (fun v r _ => ((Good.take _).bind fun c => Good.endm hP obj k v c).at_ r) (fun v r2 h2 => ?_)
    have l2 := (hP.at_ r1).le h2
    refine SpaAt.bind (Spa.take (by cases obj <;> exact ref (by decide)) r2) (fun c r _ => (Good.endm hP obj k v c).at_ r) (fun c r3 h3 => ?_)
    obtain ⟨rfl, _⟩ := take_ok h3
    simp only [List.length_cons] at l2
    by_cases hc : (c == (if obj then 125 else 93)) = true
    · simp only [if_pos hc]; exact Spa.pure _ r3
    · simp only [if_neg hc]
      exact SpaAt.bind (ih r3 (by omega)) (fun x r _ => (Good.pure _).at_ r) (fun x r _ => Spa.pure _ r)
theorem Spa.many {P : Pa JV} (hP : Good P) (sP : Spa P) (obj : Bool) : Spa (jmanyT P obj) := fun s => SpaAt.many hP sP obj _ s (Nat.lt_succ_self _)
theorem Spa.choice {α : Type} (c : UInt8) (hc : isSp c = false) {P Q R : Pa α} (hP : ∀ t, P (c :: t) = R t) (hR : Spa R) (gR : Good R) (hq : Spa Q) (gQ : Good Q) : Spa (fun s => if s.head? = some c then P s else Q s) := by
  intro s
  by_cases h : s.head? = some c
  · obtain ⟨t, rfl⟩ : ∃ t, s = c :: t := by
      cases s with
      | nil => cases h
      | cons d t => cases h; exact ⟨t, rfl⟩
    refine ⟨fun v r z hz hs => ?_, fun r z hz hs => ?_⟩
    · simp only [List.head?_cons, if_true, hP, List.cons_append] at hs ⊢
      exact (hR t).ok v r z hz hs
    · simp only [List.head?_cons, if_true, hP, List.cons_append] at hs ⊢
      exact (hR t).er r z hz hs
  · have hh : ∀ z : List UInt8, z.all isSp = true → (s ++ z).head? ≠ some c := by
      intro z hz
      cases s with
      | nil =>
        cases z with
        | nil => simp
        | cons d u =>
          simp only [List.all_cons, Bool.and_eq_true] at hz
          intro e
          cases e
          rw [hc] at hz
          cases hz.1
      | cons d u => simpa using h
    refine ⟨fun v r z hz hs => ?_, fun r z hz hs => ?_⟩
    · simp only [if_neg h, if_neg (hh z hz)] at hs ⊢
      exact (hq s).ok v r z hz hs
    · simp only [if_neg h, if_neg (hh z hz)] at hs ⊢
      exact (hq s).er r z hz hs
theorem sp_not_di {z : List UInt8} (hz : z.all isSp = true) : z.head?.any isDi = false := by
  cases z with
  | nil => rfl
  | cons d u =>
    simp only [List.all_cons, Bool.and_eq_true] at hz
    rcases sp_cases hz.1 with rfl | rfl | rfl | rfl <;> rfl
theorem Spa.digs (c : UInt8) : Spa (fun t => PR.ok (c :: t.takeWhile isDi) (t.dropWhile isDi)) := by
  refine fun s => ⟨fun w r z hz h => ?_, (fun r z _ h => by cases h)⟩
  cases h
  by_cases hr : s.dropWhile isDi = []
  · have h1 := dw_all isDi s hr
    obtain ⟨h2, h3⟩ := dw_app isDi s z h1 (sp_not_di hz)
    have h4 : s.takeWhile isDi = s := by have := span_split isDi s; rw [hr, List.append_nil] at this; exact this.symm
    exact ⟨z, by rw [h2, h3, h4], fun h => absurd hr h, fun _ => hz⟩
  · obtain ⟨h2, h3⟩ := dw_behind isDi s z hr
    exact ⟨_, by rw [h2, h3], fun _ => rfl, fun h => absurd h hr⟩
theorem Spa.dig (neg : Bool) : Spa (jdig neg) := (Spa.take (by cases neg <;> exact ref (by decide))).bind (fun c => Good.if_ (Good.pure _) (Good.digs c)) fun c => Spa.if_ (Spa.pure _) (Spa.digs c)
theorem Spa.sig : Spa jsig := Spa.choice 45 rfl (R := fun t => (jdig true t).bind fun d r => .ok (true, d) r) (fun t => rfl) ((Spa.dig true).bind (fun d => Good.pure _) fun d => Spa.pure _) ((Good.dig true).bind fun d => Good.pure _) ((Spa.dig false).bind (fun d => Good.pure _) fun d => Spa.pure _) ((Good.dig false).bind fun d => Good.pure _)
theorem Spa.number : Spa jnumber := by
  refine fun s => ⟨fun v r z hz h => ?_, fun r z hz h => ?_⟩
  · unfold jnumber at h ⊢
    cases hs : jsig s with
    | er e => rw [hs] at h; cases h
    | ok x k =>
      rw [hs] at h
      simp only at h
      by_cases hx : -9223372036854775808 ≤ jnumv x ∧ jnumv x < 9223372036854775808
      · rw [if_pos hx] at h
        cases h
        obtain ⟨r', h1, h2, h3⟩ := (Spa.sig s).ok x r z hz hs
        exact ⟨r', by rw [h1]; simp only [if_pos hx], h2, h3⟩
      · rw [if_neg hx] at h; cases h
  · unfold jnumber at h ⊢
    cases hs : jsig s with
    | er e =>
      rw [hs] at h
      cases h
      obtain ⟨r', h1, h2⟩ := (Spa.sig s).er r z hz hs
      exact ⟨r', by rw [h1], h2⟩
    | ok x k =>
      rw [hs] at h
      simp only at h
      by_cases hx : -9223372036854775808 ≤ jnumv x ∧ jnumv x < 9223372036854775808
      · rw [if_pos hx] at h; cases h
      · rw [if_neg hx] at h
        cases h
        obtain ⟨r', h1, _, _⟩ := (Spa.sig s).ok x k z hz hs
        exact ⟨s ++ z, by rw [h1]; simp only [if_neg hx], fun _ => rfl⟩
theorem Spa.list {P : Pa JV} (hP : Good P) (sP : Spa P) (obj : Bool) : Spa (jlist P obj) := by
  have g : Good (fun s1 : List UInt8 => if s1.head? = some (if obj then 125 else 93) then PR.ok ([], []) s1.tail else jmanyT P obj s1) :=
    Good.choice _ (P := fun s => PR.ok ([], []) s.tail) (Q := jmanyT P obj) (R := fun t => PR.ok ([], []) t) (fun _ => rfl) (Good.pure _) (Good.many hP obj)
  have h : Spa (fun s => (fun s1 : List UInt8 => if s1.head? = some (if obj then 125 else 93) then PR.ok ([], []) s1.tail else jmanyT P obj s1) (jsp s)) :=
    Spa.ofsp g (Spa.choice _ (by cases obj <;> rfl) (P := fun s => PR.ok ([], []) s.tail) (Q := jmanyT P obj) (R := fun t => PR.ok ([], []) t) (fun _ => rfl) (Spa.pure _) (Good.pure _) (Spa.many hP sP obj) (Good.many hP obj))
  exact h
theorem Spa.val1 {P : Pa JV} (hP : Good P) (sP : Spa P) : Spa (jval1 P) := by
  have gw : ∀ w v, Good (fun t => (jword w t).bind fun _ r => PR.ok v r) := fun w v => (Good.word w).bind fun _ => Good.pure (α := JV) v
  have sw : ∀ w v, (w.all fun c => !isSp c) = true → Spa (fun t => (jword w t).bind fun _ r => PR.ok v r) := fun w v h => (Spa.word w h).bind (fun _ => Good.pure v) fun _ => Spa.pure (α := JV) v
  have g7 : Good (fun s => (jnumber s).bind fun n r => PR.ok (JV.mk 3 n ⟨#[]⟩ [] []) r) := Good.number.bind fun _ => Good.pure _
  have s7 : Spa (fun s => (jnumber s).bind fun n r => PR.ok (JV.mk 3 n ⟨#[]⟩ [] []) r) := Spa.number.bind (fun _ => Good.pure _) fun _ => Spa.pure _
  have gl : ∀ (o : Bool) (k : Int), Good (fun t => (jlist P o t).bind fun x r => PR.ok (JV.mk k 0 ⟨#[]⟩ x.1 (x.2.map tob)) r) := fun o k => (Good.list hP o).bind fun _ => Good.pure _
  have sl : ∀ (o : Bool) (k : Int), Spa (fun t => (jlist P o t).bind fun x r => PR.ok (JV.mk k 0 ⟨#[]⟩ x.1 (x.2.map tob)) r) := fun o k => (Spa.list hP sP o).bind (fun _ => Good.pure _) fun _ => Spa.pure _
  have gt : Good (fun t => (jtxtT t).bind fun t r => PR.ok (JV.mk 4 0 (tob t) [] []) r) := Good.txt.bind fun _ => Good.pure _
  have st : Spa (fun t => (jtxtT t).bind fun t r => PR.ok (JV.mk 4 0 (tob t) [] []) r) := Spa.txt.bind (fun _ => Good.pure _) fun _ => Spa.pure _
  have g6 := Good.choice 123 (P := fun s => (jlist P true s.tail).bind fun x r => PR.ok (JV.mk 6 0 ⟨#[]⟩ x.1 (x.2.map tob)) r) (fun t => rfl) (gl true 6) g7
  have s6 := Spa.choice 123 rfl (P := fun s => (jlist P true s.tail).bind fun x r => PR.ok (JV.mk 6 0 ⟨#[]⟩ x.1 (x.2.map tob)) r) (fun t => rfl) (sl true 6) (gl true 6) s7 g7
  have g5 := Good.choice 91 (P := fun s => (jlist P false s.tail).bind fun x r => PR.ok (JV.mk 5 0 ⟨#[]⟩ x.1 (x.2.map tob)) r) (fun t => rfl) (gl false 5) g6
  have s5 := Spa.choice 91 rfl (P := fun s => (jlist P false s.tail).bind fun x r => PR.ok (JV.mk 5 0 ⟨#[]⟩ x.1 (x.2.map tob)) r) (fun t => rfl) (sl false 5) (gl false 5) s6 g6
  have g4 := Good.choice 34 (P := fun s => (jtext s).bind fun t r => PR.ok (JV.mk 4 0 (tob t) [] []) r) (fun t => rfl) gt g5
  have s4 := Spa.choice 34 rfl (P := fun s => (jtext s).bind fun t r => PR.ok (JV.mk 4 0 (tob t) [] []) r) (fun t => rfl) st gt s5 g5
  have g3 := Good.choice 116 (P := fun s => (jword [116, 114, 117, 101] s).bind fun _ r => PR.ok (JV.mk 2 0 ⟨#[]⟩ [] []) r) (R := fun t => (jword [114, 117, 101] t).bind fun _ r => .ok (.mk 2 0 ⟨#[]⟩ [] []) r) (fun t => rfl) (gw _ _) g4
  have s3 := Spa.choice 116 rfl (P := fun s => (jword [116, 114, 117, 101] s).bind fun _ r => PR.ok (JV.mk 2 0 ⟨#[]⟩ [] []) r) (R := fun t => (jword [114, 117, 101] t).bind fun _ r => .ok (.mk 2 0 ⟨#[]⟩ [] []) r) (fun t => rfl) (sw _ _ (by decide)) (gw _ _) s4 g4
  have g2 := Good.choice 102 (P := fun s => (jword [102, 97, 108, 115, 101] s).bind fun _ r => PR.ok (JV.mk 1 0 ⟨#[]⟩ [] []) r) (R := fun t => (jword [97, 108, 115, 101] t).bind fun _ r => .ok (.mk 1 0 ⟨#[]⟩ [] []) r) (fun t => rfl) (gw _ _) g3
  have s2 := Spa.choice 102 rfl (P := fun s => (jword [102, 97, 108, 115, 101] s).bind fun _ r => PR.ok (JV.mk 1 0 ⟨#[]⟩ [] []) r) (R := fun t => (jword [97, 108, 115, 101] t).bind fun _ r => .ok (.mk 1 0 ⟨#[]⟩ [] []) r) (fun t => rfl) (sw _ _ (by decide)) (gw _ _) s3 g3
  exact Spa.choice 110 rfl (P := fun s => (jword [110, 117, 108, 108] s).bind fun _ r => PR.ok (JV.mk 0 0 ⟨#[]⟩ [] []) r) (R := fun t => (jword [117, 108, 108] t).bind fun _ r => .ok (.mk 0 0 ⟨#[]⟩ [] []) r) (fun t => rfl) (sw _ _ (by decide)) (gw _ _) s2 g2
theorem Spa.fail : Spa (fun s : List UInt8 => PR.er (α := JV) s) := by
  refine fun s => ⟨(fun v r z _ h => by cases h), fun r z hz h => ?_⟩
  cases h
  exact ⟨s ++ z, rfl, fun _ => rfl⟩
theorem Spa.value : ∀ d, Spa (jvalue d)
  | 0 => Spa.ofsp Good.fail Spa.fail
  | d + 1 => by
    have h : Spa (fun s => (fun s => jval1 (jvalue d) (jsp s)) s |>.bind fun v r => (fun r => PR.ok () (jsp r)) r |>.bind fun _ r => PR.ok v r) :=
      (Spa.ofsp (Good.val1 (Good.value d)) (Spa.val1 (Good.value d) (Spa.value d))).bind (fun v => Good.sp.bind fun _ => Good.pure v) fun v => Spa.sp.bind (fun _ => Good.pure v) fun _ => Spa.pure v
    exact h
theorem jsp_jsp (s : List UInt8) : ∀ r, r = jsp s → r.all isSp = true → r = [] := by
  rintro r rfl h
  have h1 := drop_head isSp s
  unfold jsp at h ⊢
  cases hd : s.dropWhile isSp with
  | nil => rfl
  | cons c t =>
    rw [hd] at h1 h
    simp only [List.all_cons, Bool.and_eq_true] at h
    simp only [List.head?_cons, Option.any_some] at h1
    rw [h1] at h
    cases h.1
theorem val_ahead (d : Nat) (p s : List UInt8) (hp : p.all isSp = true) : jvalue d (p ++ s) = jvalue d s := by
  have e : jsp (p ++ s) = jsp s := by
    unfold jsp
    induction p with
    | nil => rfl
    | cons c t ih =>
      simp only [List.all_cons, Bool.and_eq_true] at hp
      rw [List.cons_append, List.dropWhile_cons, if_pos hp.1]
      exact ih hp.2
  cases d with
  | zero => rw [jvalue, jvalue, e]
  | succ d => rw [jvalue, jvalue, e]
/-- SPACES ahead and behind are no matter -/
theorem jread_spaces {s p z : List UInt8} (hp : p.all isSp = true) (hz : z.all isSp = true) {v : JV} {a e : Int} (h : jread s = (v, a, e)) :
    (e = 0 → jread (p ++ s ++ z) = (v, 0, 0)) ∧ (e ≠ 0 → ∃ k, jread (p ++ s ++ z) = (jv0, k, 2) ∧ (k = a + p.length ∨ a = s.length)) := by
  have ev : jvalue 8 (p ++ s ++ z) = jvalue 8 (s ++ z) := by rw [List.append_assoc]; exact val_ahead 8 p _ hp
  unfold jread at h ⊢
  rw [ev]
  cases hv : jvalue 8 s with
  | ok w r =>
    rw [hv] at h
    obtain ⟨r', h1, h2, h3⟩ := (Spa.value 8 s).ok w r z hz hv
    cases r with
    | nil =>
      cases h
      have h4 := h3 rfl
      have : r' = [] := by
        obtain ⟨x, k, h5, h6⟩ := bind_ok (x := jval1 (jvalue 7) (jsp (s ++ z))) (by rw [jvalue] at h1; exact h1)
        cases h6
        exact jsp_jsp k _ rfl h4
      subst this
      rw [h1]
      exact ⟨fun _ => rfl, fun h => absurd rfl h⟩
    | cons c t =>
      cases h
      refine ⟨(fun h => by cases h), fun _ => ?_⟩
      rw [h1, h2 (by simp)]
      have le : (c :: t).length ≤ s.length := ((Good.value 8).at_ s).le hv
      exact ⟨_, rfl, .inl (by simp only [List.length_append, List.length_cons, List.cons_append] at le ⊢; omega)⟩
  | er r =>
    rw [hv] at h
    obtain ⟨r', h1, h2⟩ := (Spa.value 8 s).er r z hz hv
    cases h
    refine ⟨(fun h => by cases h), fun _ => ?_⟩
    rw [h1]
    by_cases hr : r = []
    · subst hr
      exact ⟨_, rfl, .inr (by simp)⟩
    · rw [h2 hr]
      obtain ⟨q, e, _⟩ := ((Good.value 8).at_ s).er r hv
      refine ⟨_, rfl, .inl ?_⟩
      have := congrArg List.length e
      simp only [List.length_append] at this ⊢
      omega
end Go.Proofs.YtkbpndohpkcikaaDoor.Js
