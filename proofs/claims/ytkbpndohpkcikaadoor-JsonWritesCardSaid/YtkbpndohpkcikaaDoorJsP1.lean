/-
  json, plain: values, the reader, and the place of an error.
-/
import Derived.WalkKit
set_option linter.unusedSimpArgs false
set_option linter.unusedVariables false
namespace Go.Proofs.YtkbpndohpkcikaaDoor.Js
open Go
/-- a value -/
inductive JV where
  | mk (k i : Int) (t : ByteArray) (l : List JV) (ks : List ByteArray)
deriving Inhabited
def JV.k : JV → Int | mk k _ _ _ _ => k
def JV.i : JV → Int | mk _ i _ _ _ => i
def JV.t : JV → ByteArray | mk _ _ t _ _ => t
def JV.l : JV → List JV | mk _ _ _ l _ => l
def JV.ks : JV → List ByteArray | mk _ _ _ _ ks => ks

mutual
def jsame : JV → JV → Bool
  | .mk k i t l ks, .mk k' i' t' l' ks' => decide (k = k') && decide (i = i') && decide (t = t') && decide (ks = ks') && jsames l l'
def jsames : List JV → List JV → Bool
  | [], [] => true
  | x :: l, y :: l' => jsame x y && jsames l l'
  | [], _ :: _ => false
  | _ :: _, [] => false
end
mutual
theorem jsame_iff : ∀ (x y : JV), jsame x y = true ↔ x = y
  | .mk k i t l ks, .mk k' i' t' l' ks' => by
    rw [jsame]
    simp only [Bool.and_eq_true, decide_eq_true_eq]
    rw [jsames_iff l l']
    constructor
    · rintro ⟨⟨⟨⟨rfl, rfl⟩, rfl⟩, rfl⟩, rfl⟩; rfl
    · intro h; cases h; simp
theorem jsames_iff : ∀ (x y : List JV), jsames x y = true ↔ x = y
  | [], [] => by simp [jsames]
  | x :: l, y :: l' => by
    rw [jsames, Bool.and_eq_true, jsame_iff x y, jsames_iff l l']
    simp
  | [], _ :: _ => by simp [jsames]
  | _ :: _, [] => by simp [jsames]
end
mutual
/-- may it be, with so many depths left -/
def jmay : Nat → JV → Bool
  | d, .mk k i t l ks => decide (0 < d) && (decide (k = 0) || decide (k = 1) || decide (k = 2) || decide (k = 3) || decide (k = 4) || decide (k = 5) || decide (k = 6)) &&
      (decide (k = 3) || decide (i = 0)) && (decide (k = 4) || decide (t.size = 0)) && (decide (k = 5) || decide (k = 6) || l.isEmpty) && (if k = 6 then decide (ks.length = l.length) else ks.isEmpty) && jmays (d - 1) l
def jmays : Nat → List JV → Bool
  | _, [] => true
  | d, x :: l => jmay d x && jmays d l
end
/-- a text's byte written -/
def hexd (n : Nat) : UInt8 := if n < 10 then UInt8.ofNat (48 + n) else UInt8.ofNat (87 + n)
def sign (c : UInt8) : Option UInt8 := if c = 8 then some 98 else if c = 9 then some 116 else if c = 10 then some 110 else if c = 12 then some 102 else if c = 13 then some 114 else if c = 34 then some 34 else if c = 92 then some 92 else none
def esc (c : UInt8) : List UInt8 := match sign c with
  | some b => [92, b]
  | none => if c < 32 ∨ 126 < c then [92, 117, 48, 48, hexd (c.toNat / 16), hexd (c.toNat % 16)] else [c]
def quo (s : List UInt8) : List UInt8 := 34 :: (s.flatMap esc ++ [34])

inductive PR (α : Type) where
  | ok (v : α) (r : List UInt8)
  | er (r : List UInt8)
deriving Inhabited
abbrev Pa (α : Type) := List UInt8 → PR α
def PR.bind {α β : Type} (x : PR α) (f : α → Pa β) : PR β := match x with
  | .ok v r => f v r
  | .er r => .er r
def isSp (c : UInt8) : Bool := c == 32 || c == 9 || c == 10 || c == 13
def isDi (c : UInt8) : Bool := decide (48 ≤ c) && decide (c ≤ 57)
def jsp (s : List UInt8) : List UInt8 := s.dropWhile isSp
def jtake (p : UInt8 → Bool) : Pa UInt8
  | [] => .er []
  | c :: t => if p c then .ok c t else .er (c :: t)
def jword : List UInt8 → Pa Unit
  | [], s => .ok () s
  | c :: w, s => (jtake (· == c) s).bind fun _ r => jword w r
def jnum : List UInt8 → Nat → Nat
  | [], a => a
  | c :: t, a => jnum t (a * 10 + (c.toNat - 48))
/-- digits, behind a sign or not -/
def jdig (neg : Bool) (s : List UInt8) : PR (List UInt8) := (jtake (fun c => isDi c && (!neg || c != 48)) s).bind fun c t => if c = 48 then .ok [c] t else .ok (c :: t.takeWhile isDi) (t.dropWhile isDi)
def jsig (s : List UInt8) : PR (Bool × List UInt8) := if s.head? = some 45 then (jdig true s.tail).bind fun d r => .ok (true, d) r else (jdig false s).bind fun d r => .ok (false, d) r
def jnumv (x : Bool × List UInt8) : Int := if x.1 then -(jnum x.2 0 : Int) else jnum x.2 0
def jnumber (s : List UInt8) : PR Int := match jsig s with
  | .er r => .er r
  | .ok x r => if -9223372036854775808 ≤ jnumv x ∧ jnumv x < 9223372036854775808 then .ok (jnumv x) r else .er s
def isHex (c : UInt8) : Bool := isDi c || (decide (97 ≤ c) && decide (c ≤ 102)) || (decide (65 ≤ c) && decide (c ≤ 70))
def hexv (c : UInt8) : UInt8 := if 97 ≤ c then c - 97 + 10 else if 65 ≤ c then c - 65 + 10 else c - 48
def unsign (c : UInt8) : Option UInt8 := if c = 98 then some 8 else if c = 116 then some 9 else if c = 110 then some 10 else if c = 102 then some 12 else if c = 114 then some 13 else if c = 34 then some 34 else if c = 92 then some 92 else if c = 47 then some 47 else none
/-- what stands behind a backslash -/
def jesc (s : List UInt8) : PR UInt8 :=
  (jtake (fun c => (unsign c).isSome || c == 117) s).bind fun c r => match unsign c with
    | some b => .ok b r
    | none => (jtake (· == 48) r).bind fun _ r => (jtake (· == 48) r).bind fun _ r => (jtake isHex r).bind fun h r => (jtake isHex r).bind fun l r => .ok (hexv h <<< 4 ||| hexv l) r
def pri (c : UInt8) : Bool := decide (32 ≤ c) && decide (c ≤ 126)
/-- a text behind its first quote -/
def jtxt : Nat → Pa (List UInt8)
  | 0, s => .er s
  | n + 1, s => (jtake pri s).bind fun c t => if c = 34 then .ok [] t else (if c = 92 then jesc t else .ok c t).bind fun b r => (jtxt n r).bind fun l r => .ok (b :: l) r
def jtxtT (s : List UInt8) : PR (List UInt8) := jtxt (s.length + 1) s
def jtext (s : List UInt8) : PR (List UInt8) := (jtake (· == 34) s).bind fun _ r => jtxtT r
def jkey (s : List UInt8) : PR (List UInt8) := (jtext (jsp s)).bind fun k r => (jtake (· == 58) (jsp r)).bind fun _ r => .ok k r
/-- values up to an end, and their keys -/
def jmany (P : Pa JV) (obj : Bool) : Nat → Pa (List JV × List (List UInt8))
  | 0, s => .er s
  | n + 1, s => (if obj then (jkey s).bind fun k r => .ok [k] r else .ok [] s).bind fun k r => (P r).bind fun v r =>
      (jtake (fun c => c == 44 || c == (if obj then 125 else 93)) r).bind fun c r =>
        if (c == (if obj then 125 else 93)) = true then .ok ([v], k) r else (jmany P obj n r).bind fun x r => .ok (v :: x.1, k ++ x.2) r
def jmanyT (P : Pa JV) (obj : Bool) (s : List UInt8) : PR (List JV × List (List UInt8)) := jmany P obj (s.length + 1) s
def jlist (P : Pa JV) (obj : Bool) (s : List UInt8) : PR (List JV × List (List UInt8)) :=
  let s1 := jsp s
  if s1.head? = some (if obj then 125 else 93) then .ok ([], []) s1.tail else jmanyT P obj s1
def jv0 : JV := .mk 0 0 ⟨#[]⟩ [] []
def tob (l : List UInt8) : ByteArray := ⟨l.toArray⟩
/-- a value without the spaces ahead and behind -/
def jval1 (P : Pa JV) (s : List UInt8) : PR JV :=
  if s.head? = some 110 then (jword [110, 117, 108, 108] s).bind fun _ r => .ok (.mk 0 0 ⟨#[]⟩ [] []) r
  else if s.head? = some 102 then (jword [102, 97, 108, 115, 101] s).bind fun _ r => .ok (.mk 1 0 ⟨#[]⟩ [] []) r
  else if s.head? = some 116 then (jword [116, 114, 117, 101] s).bind fun _ r => .ok (.mk 2 0 ⟨#[]⟩ [] []) r
  else if s.head? = some 34 then (jtext s).bind fun t r => .ok (.mk 4 0 (tob t) [] []) r
  else if s.head? = some 91 then (jlist P false s.tail).bind fun x r => .ok (.mk 5 0 ⟨#[]⟩ x.1 (x.2.map tob)) r
  else if s.head? = some 123 then (jlist P true s.tail).bind fun x r => .ok (.mk 6 0 ⟨#[]⟩ x.1 (x.2.map tob)) r
  else (jnumber s).bind fun n r => .ok (.mk 3 n ⟨#[]⟩ [] []) r
def jvalue : Nat → Pa JV
  | 0, s => .er (jsp s)
  | d + 1, s => (jval1 (jvalue d) (jsp s)).bind fun v r => .ok v (jsp r)
/-- what Read tells -/
def jread (s : List UInt8) : JV × Int × Int := match jvalue 8 s with
  | .ok v [] => (v, 0, 0)
  | .ok _ r => (jv0, s.length - r.length, 2)
  | .er r => (jv0, s.length - r.length, 2)


/-! ### what a reader does with what comes behind -/
def numc (c : UInt8) : Bool := c == 45 || isDi c
structure GoodAt {α : Type} (P : Pa α) (s : List UInt8) : Prop where
  ok : ∀ v r, P s = .ok v r → ∃ p, s = p ++ r ∧ ∀ r', (r' = [] ∨ r'.head? = r.head?) → P (p ++ r') = .ok v r'
  er : ∀ r, P s = .er r → ∃ p, s = p ++ r ∧ (r.head?.any numc = false → (∀ r', r'.head? = r.head? → P (p ++ r') = .er r') ∧ (P p = .er [] ∨ ∃ v, P p = .ok v []))
def En {α : Type} (P : Pa α) : Prop := P [] = .er [] ∨ ∃ v, P [] = .ok v []
structure Good {α : Type} (P : Pa α) : Prop where
  at_ : ∀ s, GoodAt P s
  en : En P
theorem En.bind {α β : Type} {P : Pa α} {Q : α → Pa β} (hp : En P) (hq : ∀ v, En (Q v)) : En (fun s => (P s).bind Q) := by
  show (P []).bind Q = _ ∨ ∃ v, (P []).bind Q = _
  rcases hp with h | ⟨v, h⟩
  · left; rw [h]; rfl
  · rw [h]; exact hq v
theorem GoodAt.bind {α β : Type} {P : Pa α} {Q : α → Pa β} {s : List UInt8} (hp : GoodAt P s) (hq : ∀ v r, P s = .ok v r → GoodAt (Q v) r) (he : ∀ v, En (Q v)) : GoodAt (fun s => (P s).bind Q) s := by
  refine ⟨fun w r h => ?_, fun r h => ?_⟩
  · cases hP : P s with
    | er e => simp only [hP] at h; cases h
    | ok v k =>
      simp only [hP] at h
      obtain ⟨p, rfl, h1⟩ := hp.ok v k hP
      obtain ⟨q, rfl, h2⟩ := (hq v k hP).ok w r h
      refine ⟨p ++ q, by simp, fun r' hr => ?_⟩
      show (P (p ++ q ++ r')).bind Q = _
      rw [List.append_assoc, h1 (q ++ r') (by
        cases q with
        | nil => simpa using hr
        | cons c q => right; rfl)]
      exact h2 r' hr
  · cases hP : P s with
    | er e =>
      simp only [hP] at h
      cases h
      obtain ⟨p, rfl, h1⟩ := hp.er r hP
      refine ⟨p, rfl, fun hn => ?_⟩
      obtain ⟨h2, h3⟩ := h1 hn
      refine ⟨fun r' hr => ?_, ?_⟩
      · show (P (p ++ r')).bind Q = _
        rw [h2 r' hr]; rfl
      · show (P p).bind Q = _ ∨ ∃ v, (P p).bind Q = _
        rcases h3 with h3 | ⟨v, h3⟩
        · left; rw [h3]; rfl
        · rw [h3]
          exact he v
    | ok v k =>
      simp only [hP] at h
      obtain ⟨p, rfl, h1⟩ := hp.ok v k hP
      obtain ⟨q, rfl, h2⟩ := (hq v _ hP).er r h
      refine ⟨p ++ q, by simp, fun hn => ?_⟩
      obtain ⟨h3, h4⟩ := h2 hn
      refine ⟨fun r' hr => ?_, ?_⟩
      · show (P (p ++ q ++ r')).bind Q = _
        rw [List.append_assoc, h1 (q ++ r') (by
          cases q with
          | nil => right; simpa using hr
          | cons c q => right; rfl)]
        exact h3 r' hr
      · show (P (p ++ q)).bind Q = _ ∨ ∃ v, (P (p ++ q)).bind Q = _
        rw [h1 q (by
          cases q with
          | nil => left; rfl
          | cons c q => right; rfl)]
        exact h4
theorem Good.bind {α β : Type} {P : Pa α} {Q : α → Pa β} (hp : Good P) (hq : ∀ v, Good (Q v)) : Good (fun s => (P s).bind Q) :=
  ⟨fun s => (hp.at_ s).bind (fun v r _ => (hq v).at_ r) (fun v => (hq v).en), hp.en.bind (fun v => (hq v).en)⟩
theorem Good.pure {α : Type} (v : α) : Good (fun s => PR.ok v s) := by
  refine ⟨fun s => ⟨fun w r h => ?_, (fun r h => by cases h)⟩, .inr ⟨v, rfl⟩⟩
  cases h
  exact ⟨[], rfl, fun r' _ => rfl⟩
theorem Good.take (p : UInt8 → Bool) : Good (jtake p) := by
  refine ⟨fun s => ⟨fun w r h => ?_, fun r h => ?_⟩, .inl rfl⟩
  · cases s with
    | nil => cases h
    | cons c t =>
      rw [jtake] at h
      split at h
      · cases h
        rename_i hc
        exact ⟨[w], rfl, fun r' _ => by rw [List.singleton_append, jtake, if_pos hc]⟩
      · cases h
  · cases s with
    | nil => cases h; exact ⟨[], rfl, fun _ => ⟨(fun r' hr => by cases r' with | nil => rfl | cons c t => cases hr), .inl rfl⟩⟩
    | cons c t =>
      rw [jtake] at h
      split at h
      · cases h
      · cases h
        rename_i hc
        refine ⟨[], rfl, fun _ => ⟨fun r' hr => ?_, .inl rfl⟩⟩
        cases r' with
        | nil => cases hr
        | cons d u =>
          cases hr
          rw [List.nil_append, jtake, if_neg hc]
theorem take_ok {p : UInt8 → Bool} {s r : List UInt8} {c : UInt8} (h : jtake p s = .ok c r) : s = c :: r ∧ p c = true := by
  cases s with
  | nil => cases h
  | cons d t =>
    rw [jtake] at h
    split at h
    · cases h; exact ⟨rfl, by assumption⟩
    · cases h
theorem span_split (f : UInt8 → Bool) (s : List UInt8) : s = s.takeWhile f ++ s.dropWhile f := (List.takeWhile_append_dropWhile).symm
theorem drop_head (f : UInt8 → Bool) : ∀ (s : List UInt8), (s.dropWhile f).head?.any f = false
  | [] => rfl
  | c :: t => by
    rw [List.dropWhile_cons]
    split
    · exact drop_head f t
    · rename_i h; simpa using h
theorem dw_app (f : UInt8 → Bool) : ∀ (p r : List UInt8), p.all f = true → r.head?.any f = false → (p ++ r).dropWhile f = r ∧ (p ++ r).takeWhile f = p
  | [], r, _, h => by
    cases r with
    | nil => exact ⟨rfl, rfl⟩
    | cons c t => simp at h; simp [List.dropWhile, List.takeWhile, h]
  | c :: p, r, hp, h => by
    simp only [List.all_cons, Bool.and_eq_true] at hp
    obtain ⟨h1, h2⟩ := dw_app f p r hp.2 h
    simp [List.dropWhile, List.takeWhile, hp.1, h1, h2]
theorem tw_all (f : UInt8 → Bool) : ∀ (s : List UInt8), (s.takeWhile f).all f = true
  | [] => rfl
  | c :: t => by
    rw [List.takeWhile_cons]
    split
    · rename_i h; simp only [List.all_cons, h, Bool.true_and]; exact tw_all f t
    · rfl
/-- spaces -/
theorem Good.sp : Good (fun s => PR.ok () (jsp s)) := by
  refine ⟨fun s => ⟨fun w r h => ?_, (fun r h => by cases h)⟩, .inr ⟨(), rfl⟩⟩
  cases h
  refine ⟨s.takeWhile isSp, span_split _ _, fun r' hr => ?_⟩
  show PR.ok () (jsp (s.takeWhile isSp ++ r')) = _
  unfold jsp
  rw [(dw_app isSp (s.takeWhile isSp) r' (tw_all _ _) (by
    rcases hr with rfl | hr
    · rfl
    · rw [hr]; exact drop_head _ _)).1]
theorem Good.word : ∀ (w : List UInt8), Good (jword w)
  | [] => Good.pure ()
  | _ :: w => (Good.take _).bind (fun _ => Good.word w)
theorem Good.if_ {α : Type} {P Q : Pa α} {b : Prop} [Decidable b] (hp : Good P) (hq : Good Q) : Good (fun s => if b then P s else Q s) := by
  by_cases h : b
  · simpa [h] using hp
  · simpa [h] using hq
theorem Good.esc : Good jesc := by
  refine (Good.take _).bind fun c => ?_
  cases unsign c with
  | some b => exact Good.pure b
  | none => exact (Good.take _).bind fun _ => (Good.take _).bind fun _ => (Good.take _).bind fun _ => (Good.take _).bind fun _ => Good.pure _
/-- how long the rest is -/
theorem GoodAt.le {α : Type} {P : Pa α} {s r : List UInt8} {v : α} (h : GoodAt P s) (hs : P s = .ok v r) : r.length ≤ s.length := by
  obtain ⟨p, rfl, _⟩ := h.ok v r hs
  simp
theorem Good.escq (c : UInt8) : Good (fun t => if c = 92 then jesc t else PR.ok c t) := Good.if_ Good.esc (Good.pure c)
theorem jtxt_fuel : ∀ (n m : Nat) (s : List UInt8), s.length < n → s.length < m → jtxt n s = jtxt m s
  | 0, _, s, h, _ => absurd h (Nat.not_lt_zero _)
  | _ + 1, 0, s, _, h => absurd h (Nat.not_lt_zero _)
  | n + 1, m + 1, s, h, k => by
    rw [jtxt, jtxt]
    cases ht : jtake pri s with
    | er r => rfl
    | ok c t =>
      obtain ⟨rfl, _⟩ := take_ok ht
      simp only [PR.bind]
      split
      · rfl
      · cases he : (if c = 92 then jesc t else PR.ok c t) with
        | er r => rfl
        | ok b r =>
          have := ((Good.escq c).at_ t).le he
          simp only [List.length_cons] at h k
          simp only
          rw [jtxt_fuel n m r (by omega) (by omega)]
theorem jtxtT_eq : jtxtT = fun s => (jtake pri s).bind fun c t => if c = 34 then .ok [] t else (if c = 92 then jesc t else .ok c t).bind fun b r => (jtxtT r).bind fun l r => .ok (b :: l) r := by
  funext s
  unfold jtxtT
  rw [jtxt]
  cases ht : jtake pri s with
  | er r => rfl
  | ok c t =>
    obtain ⟨rfl, _⟩ := take_ok ht
    simp only [PR.bind]
    split
    · rfl
    · cases he : (if c = 92 then jesc t else PR.ok c t) with
      | er r => rfl
      | ok b r =>
        have := ((Good.escq c).at_ t).le he
        simp only [List.length_cons]
        rw [jtxt_fuel (t.length + 1) (r.length + 1) r (by omega) (by omega)]
theorem En.txt : En jtxtT := .inl rfl
theorem GoodAt.txt (n : Nat) : ∀ s : List UInt8, s.length < n → GoodAt jtxtT s := by
  induction n with
  | zero => intro s h; omega
  | succ n ih =>
    intro s h
    rw [jtxtT_eq]
    have e2 : ∀ (c : UInt8), En (fun t => if c = 34 then PR.ok [] t else (if c = 92 then jesc t else .ok c t).bind fun b r => (jtxtT r).bind fun l r => .ok (b :: l) r) := fun c => by
      by_cases hc : c = 34
      · simp only [if_pos hc]; exact (Good.pure _).en
      · simp only [if_neg hc]
        exact (Good.escq c).en.bind fun b => En.txt.bind fun l => (Good.pure _).en
    refine GoodAt.bind ((Good.take pri).at_ s) (fun c t ht => ?_) e2
    obtain ⟨rfl, _⟩ := take_ok ht
    by_cases hc : c = 34
    · simp only [if_pos hc]; exact (Good.pure _).at_ t
    · simp only [if_neg hc]
      refine GoodAt.bind ((Good.escq c).at_ t) (fun b r hb => ?_) (fun b => En.txt.bind fun l => (Good.pure _).en)
      have := ((Good.escq c).at_ t).le hb
      simp only [List.length_cons] at h
      exact GoodAt.bind (ih r (by omega)) (fun l r _ => (Good.pure _).at_ r) (fun l => (Good.pure _).en)
theorem Good.txt : Good jtxtT := ⟨fun s => GoodAt.txt _ s (Nat.lt_succ_self _), En.txt⟩
theorem Good.text : Good jtext := (Good.take _).bind fun _ => Good.txt
theorem Good.ofsp {α : Type} {P : Pa α} (h : Good P) : Good (fun s => P (jsp s)) := by
  have := Good.sp.bind (fun _ => h)
  exact this
theorem Good.key : Good jkey := by
  have h : Good (fun s => ((fun s => jtext (jsp s)) s).bind fun k r => ((fun r => (jtake (· == 58) (jsp r))) r).bind fun _ r => PR.ok k r) :=
    Good.text.ofsp.bind fun k => (Good.take _).ofsp.bind fun _ => Good.pure k
  exact h
def jfront (obj : Bool) (s : List UInt8) : PR (List (List UInt8)) := if obj then (jkey s).bind fun k r => .ok [k] r else .ok [] s
theorem Good.front (obj : Bool) : Good (jfront obj) := by
  cases obj with
  | true => exact Good.key.bind fun k => Good.pure [k]
  | false => exact Good.pure []
def jstep (P : Pa JV) (obj : Bool) (K : Pa (List JV × List (List UInt8))) : Pa (List JV × List (List UInt8)) := fun s =>
  (jfront obj s).bind fun k r => (P r).bind fun v r =>
      (jtake (fun c => c == 44 || c == (if obj then 125 else 93)) r).bind fun c r =>
        if (c == (if obj then 125 else 93)) = true then .ok ([v], k) r else (K r).bind fun x r => .ok (v :: x.1, k ++ x.2) r
theorem jmany_succ (P : Pa JV) (obj : Bool) (n : Nat) : jmany P obj (n + 1) = jstep P obj (jmany P obj n) := rfl
/-- the step, where its two ways on agree on all that is shorter -/
theorem jstep_congr {P : Pa JV} (hP : Good P) (obj : Bool) {K L : Pa (List JV × List (List UInt8))} {s : List UInt8} (h : ∀ r, r.length < s.length → K r = L r) : jstep P obj K s = jstep P obj L s := by
  unfold jstep
  cases h1 : jfront obj s with
  | er r => rfl
  | ok k r1 =>
    have l1 := ((Good.front obj).at_ s).le h1
    simp only [PR.bind]
    cases h2 : P r1 with
    | er r => rfl
    | ok v r2 =>
      have l2 := (hP.at_ r1).le h2
      simp only
      cases h3 : jtake (fun c => c == 44 || c == (if obj = true then 125 else 93)) r2 with
      | er r => rfl
      | ok c r3 =>
        obtain ⟨rfl, _⟩ := take_ok h3
        simp only [List.length_cons] at l2
        simp only
        rw [h r3 (by omega)]
theorem jmany_fuel {P : Pa JV} (hP : Good P) (obj : Bool) : ∀ (n m : Nat) (s : List UInt8), s.length < n → s.length < m → jmany P obj n s = jmany P obj m s
  | 0, _, s, h, _ => absurd h (Nat.not_lt_zero _)
  | _ + 1, 0, s, _, h => absurd h (Nat.not_lt_zero _)
  | n + 1, m + 1, s, h, k => by
    rw [jmany_succ, jmany_succ]
    exact jstep_congr hP obj fun r hr => jmany_fuel hP obj n m r (by omega) (by omega)
theorem jmanyT_eq {P : Pa JV} (hP : Good P) (obj : Bool) : jmanyT P obj = jstep P obj (jmanyT P obj) := by
  funext s
  unfold jmanyT
  rw [jmany_succ]
  exact jstep_congr hP obj fun r hr => jmany_fuel hP obj _ _ r (by omega) (by omega)
theorem En.front_many {P : Pa JV} (hP : Good P) (obj : Bool) {K : Pa (List JV × List (List UInt8))} (hK : En K) : En (jstep P obj K) :=
  (Good.front obj).en.bind fun k => hP.en.bind fun v => (Good.take _).en.bind fun c => by
    by_cases hc : (c == (if obj then 125 else 93)) = true
    · simp only [if_pos hc]; exact (Good.pure _).en
    · simp only [if_neg hc]; exact hK.bind fun x => (Good.pure _).en
theorem En.none : En (fun s : List UInt8 => PR.er (α := List JV × List (List UInt8)) s) := .inl rfl
theorem En.many {P : Pa JV} (hP : Good P) (obj : Bool) : En (jmanyT P obj) := En.front_many hP obj (K := jmany P obj 0) En.none
theorem GoodAt.many {P : Pa JV} (hP : Good P) (obj : Bool) (n : Nat) : ∀ s : List UInt8, s.length < n → GoodAt (jmanyT P obj) s := by
  induction n with
  | zero => intro s h; omega
  | succ n ih =>
    intro s h
    rw [jmanyT_eq hP]
    have e3 : ∀ (k : List (List UInt8)) (v : JV) (c : UInt8), En (fun r => if (c == (if obj then 125 else 93)) = true then PR.ok ([v], k) r else (jmanyT P obj r).bind fun x r => .ok (v :: x.1, k ++ x.2) r) := fun k v c => by
      by_cases hc : (c == (if obj then 125 else 93)) = true
      · simp only [if_pos hc]; exact (Good.pure _).en
      · simp only [if_neg hc]; exact (En.many hP obj).bind fun x => (Good.pure _).en
    refine GoodAt.bind ((Good.front obj).at_ s) (fun k r1 h1 => ?_) (fun k => hP.en.bind fun v => (Good.take _).en.bind fun c => e3 k v c)
    have l1 := ((Good.front obj).at_ s).le h1
    refine GoodAt.bind (hP.at_ r1) (fun v r2 h2 => ?_) (fun v => (Good.take _).en.bind fun c => e3 k v c)
    have l2 := (hP.at_ r1).le h2
    refine GoodAt.bind ((Good.take _).at_ r2) (fun c r3 h3 => ?_) (fun c => e3 k v c)
    obtain ⟨rfl, _⟩ := take_ok h3
    simp only [List.length_cons] at l2
    by_cases hc : (c == (if obj then 125 else 93)) = true
    · simp only [if_pos hc]; exact (Good.pure _).at_ r3
    · simp only [if_neg hc]
      exact GoodAt.bind (ih r3 (by omega)) (fun x r _ => (Good.pure _).at_ r) (fun x => (Good.pure _).en)
theorem Good.many {P : Pa JV} (hP : Good P) (obj : Bool) : Good (jmanyT P obj) := ⟨fun s => GoodAt.many hP obj _ s (Nat.lt_succ_self _), En.many hP obj⟩
/-- a choice by the byte that stands next -/
theorem Good.choice {α : Type} (c : UInt8) {P Q R : Pa α} (hP : ∀ t, P (c :: t) = R t) (hR : Good R) (hq : Good Q) : Good (fun s => if s.head? = some c then P s else Q s) := by
  refine ⟨fun s => ?_, hq.en⟩
  by_cases h : s.head? = some c
  · obtain ⟨t, rfl⟩ : ∃ t, s = c :: t := by
      cases s with
      | nil => cases h
      | cons d t => cases h; exact ⟨t, rfl⟩
    refine ⟨fun v r hs => ?_, fun r hs => ?_⟩
    · simp only [List.head?_cons, if_true, hP] at hs
      obtain ⟨p, rfl, h1⟩ := (hR.at_ t).ok v r hs
      refine ⟨c :: p, rfl, fun r' hr => ?_⟩
      simp only [List.cons_append, List.head?_cons, if_true, hP]
      exact h1 r' hr
    · simp only [List.head?_cons, if_true, hP] at hs
      obtain ⟨p, rfl, h1⟩ := (hR.at_ t).er r hs
      refine ⟨c :: p, rfl, fun hn => ?_⟩
      simp only [List.cons_append, List.head?_cons, if_true, hP]
      exact h1 hn
  · refine ⟨fun v r hs => ?_, fun r hs => ?_⟩
    · simp only [if_neg h] at hs
      obtain ⟨p, rfl, h1⟩ := (hq.at_ s).ok v r hs
      refine ⟨p, rfl, fun r' hr => ?_⟩
      have hh : (p ++ r').head? ≠ some c := by
        cases p with
        | nil =>
          rcases hr with rfl | hr
          · simp
          · simpa [hr] using h
        | cons d p => simpa using h
      simp only [if_neg hh]
      exact h1 r' hr
    · simp only [if_neg h] at hs
      obtain ⟨p, rfl, h1⟩ := (hq.at_ s).er r hs
      refine ⟨p, rfl, fun hn => ?_⟩
      obtain ⟨h2, h3⟩ := h1 hn
      refine ⟨fun r' hr => ?_, ?_⟩
      · have hh : (p ++ r').head? ≠ some c := by
          cases p with
          | nil => simpa [hr] using h
          | cons d p => simpa using h
        simp only [if_neg hh]
        exact h2 r' hr
      · have hh : p.head? ≠ some c := by
          cases p with
          | nil => simp
          | cons d p => simpa using h
        simp only [if_neg hh]
        exact h3
theorem Good.digs (c : UInt8) : Good (fun t => PR.ok (c :: t.takeWhile isDi) (t.dropWhile isDi)) := by
  refine ⟨fun s => ⟨fun w r h => ?_, (fun r h => by cases h)⟩, .inr ⟨[c], rfl⟩⟩
  cases h
  refine ⟨s.takeWhile isDi, span_split _ _, fun r' hr => ?_⟩
  obtain ⟨h1, h2⟩ := dw_app isDi (s.takeWhile isDi) r' (tw_all _ _) (by
    rcases hr with rfl | hr
    · rfl
    · rw [hr]; exact drop_head _ _)
  rw [h1, h2]
theorem Good.dig (neg : Bool) : Good (jdig neg) := (Good.take _).bind fun c => Good.if_ (Good.pure _) (Good.digs c)
theorem Good.sig : Good jsig := Good.choice 45 (R := fun t => (jdig true t).bind fun d r => .ok (true, d) r) (fun t => rfl) ((Good.dig true).bind fun d => Good.pure _) ((Good.dig false).bind fun d => Good.pure _)
theorem sig_numc {s r : List UInt8} {x : Bool × List UInt8} (h : jsig s = .ok x r) : s.head?.any numc = true := by
  unfold jsig at h
  split at h
  · rename_i hh; rw [hh]; rfl
  · unfold jdig at h
    cases ht : jtake (fun c => isDi c && (!false || c != 48)) s with
    | er e => rw [ht] at h; cases h
    | ok c t =>
      obtain ⟨rfl, hc⟩ := take_ok ht
      simp only [Bool.and_eq_true] at hc
      simp [numc, hc.1]
theorem jsig_neg (t : List UInt8) : jsig (45 :: t) = (jdig true t).bind fun d r => .ok (true, d) r := rfl
theorem jsig_pos {c : UInt8} (h : c ≠ 45) (t : List UInt8) : jsig (c :: t) = (jdig false (c :: t)).bind fun d r => .ok (false, d) r := by
  unfold jsig
  rw [if_neg (by simpa using h)]
theorem Good.number : Good jnumber := by
  refine ⟨fun s => ⟨fun v r h => ?_, fun r h => ?_⟩, .inl rfl⟩
  · unfold jnumber at h
    cases hs : jsig s with
    | er e => rw [hs] at h; cases h
    | ok x k =>
      rw [hs] at h
      simp only at h
      split at h
      · rename_i hx
        cases h
        obtain ⟨p, rfl, h1⟩ := (Good.sig.at_ s).ok x r hs
        refine ⟨p, rfl, fun r' hr => ?_⟩
        unfold jnumber
        rw [h1 r' hr]
        simp only [if_pos hx]
      · cases h
  · unfold jnumber at h
    cases hs : jsig s with
    | er e =>
      rw [hs] at h
      cases h
      obtain ⟨p, rfl, h1⟩ := (Good.sig.at_ s).er r hs
      refine ⟨p, rfl, fun hn => ?_⟩
      obtain ⟨h2, h3⟩ := h1 hn
      refine ⟨fun r' hr => ?_, ?_⟩
      · unfold jnumber; rw [h2 r' hr]
      · rcases h3 with h3 | ⟨v, h3⟩
        · left; unfold jnumber; rw [h3]
        · exfalso
          have hn2 := sig_numc h3
          -- digits that came whole, and then an error: none
          cases p with
          | nil => simp at hn2
          | cons c p =>
            simp only [List.cons_append] at hs
            by_cases h45 : c = 45
            · subst h45
              rw [jsig_neg] at hs h3
              unfold jdig at hs h3
              cases p with
              | nil => cases h3
              | cons d p =>
                simp only [List.cons_append, jtake] at hs h3
                split at hs
                · simp only [PR.bind] at hs
                  split at hs
                  · cases hs
                  · rename_i hq; split at hq <;> cases hq
                · rename_i hh
                  rw [if_neg hh] at h3
                  cases h3
            · rw [jsig_pos h45] at h3 hs
              unfold jdig at hs h3
              simp only [jtake] at hs h3
              split at hs
              · simp only [PR.bind] at hs
                split at hs
                · cases hs
                · rename_i hq; split at hq <;> cases hq
              · rename_i hh
                rw [if_neg hh] at h3
                cases h3
    | ok x k =>
      rw [hs] at h
      simp only at h
      split at h
      · cases h
      · cases h
        refine ⟨[], rfl, fun hn => ?_⟩
        rw [sig_numc hs] at hn
        cases hn
theorem Good.list {P : Pa JV} (hP : Good P) (obj : Bool) : Good (jlist P obj) := by
  have h : Good (fun s => (fun s1 : List UInt8 => if s1.head? = some (if obj then 125 else 93) then PR.ok ([], []) s1.tail else jmanyT P obj s1) (jsp s)) :=
    Good.ofsp (Good.choice _ (P := fun s => PR.ok ([], []) s.tail) (Q := jmanyT P obj) (R := fun t => PR.ok ([], []) t) (fun _ => rfl) (Good.pure _) (Good.many hP obj))
  exact h
theorem Good.val1 {P : Pa JV} (hP : Good P) : Good (jval1 P) := by
  unfold jval1
  refine Good.choice 110 (R := fun t => (jword [117, 108, 108] t).bind fun _ r => .ok (.mk 0 0 ⟨#[]⟩ [] []) r) (fun t => rfl) ((Good.word _).bind fun _ => Good.pure _) ?_
  refine Good.choice 102 (R := fun t => (jword [97, 108, 115, 101] t).bind fun _ r => .ok (.mk 1 0 ⟨#[]⟩ [] []) r) (fun t => rfl) ((Good.word _).bind fun _ => Good.pure _) ?_
  refine Good.choice 116 (R := fun t => (jword [114, 117, 101] t).bind fun _ r => .ok (.mk 2 0 ⟨#[]⟩ [] []) r) (fun t => rfl) ((Good.word _).bind fun _ => Good.pure _) ?_
  refine Good.choice 34 (R := fun t => (jtxtT t).bind fun t r => .ok (.mk 4 0 (tob t) [] []) r) (fun t => rfl) (Good.txt.bind fun _ => Good.pure _) ?_
  refine Good.choice 91 (R := fun t => (jlist P false t).bind fun x r => .ok (.mk 5 0 ⟨#[]⟩ x.1 (x.2.map tob)) r) (fun t => rfl) ((Good.list hP false).bind fun _ => Good.pure _) ?_
  refine Good.choice 123 (R := fun t => (jlist P true t).bind fun x r => .ok (.mk 6 0 ⟨#[]⟩ x.1 (x.2.map tob)) r) (fun t => rfl) ((Good.list hP true).bind fun _ => Good.pure _) ?_
  exact Good.number.bind fun _ => Good.pure _
theorem Good.fail : Good (fun s : List UInt8 => PR.er (α := JV) s) := by
  refine ⟨fun s => ⟨(fun v r h => by cases h), fun r h => ?_⟩, .inl rfl⟩
  cases h
  exact ⟨[], rfl, fun _ => ⟨fun r' _ => rfl, .inl rfl⟩⟩
theorem Good.value : ∀ d, Good (jvalue d)
  | 0 => Good.ofsp Good.fail
  | d + 1 => by
    have h : Good (fun s => (fun s => jval1 (jvalue d) (jsp s)) s |>.bind fun v r => (fun r => PR.ok () (jsp r)) r |>.bind fun _ r => PR.ok v r) :=
      (Good.val1 (Good.value d)).ofsp.bind fun v => Good.sp.bind fun _ => Good.pure v
    exact h
/-- THE PLACE: an error's place hangs on what stands up to it -/
theorem jread_place {s b : List UInt8} {a : Nat} {v : JV} (h : jread s = (v, (a : Int), 2)) (ha : a < s.length) (hn : (s[a]?).any numc = false) :
    (∃ x, jread (s.take (a + 1) ++ b) = (x, (a : Int), 2)) ∧ ((∃ x, jread (s.take a) = (x, 0, 0)) ∨ ∃ x, jread (s.take a) = (x, (a : Int), 2)) := by
  unfold jread at h
  have key : ∀ p r : List UInt8, s = p ++ r → a = p.length → r ≠ [] → (s.take a = p ∧ ∃ c t, r = c :: t ∧ s[a]? = some c ∧ s.take (a + 1) ++ b = p ++ c :: b) := by
    rintro p r rfl rfl hr
    cases r with
    | nil => exact absurd rfl hr
    | cons c t =>
      refine ⟨by simp, c, t, rfl, by simp, ?_⟩
      rw [List.take_append, List.take_of_length_le (show p.length ≤ p.length + 1 by omega)]
      simp [show p.length + 1 - p.length = 1 by omega]
  cases hv : jvalue 8 s with
  | ok w r =>
    rw [hv] at h
    cases r with
    | nil => cases h
    | cons c t =>
      simp only [Prod.mk.injEq] at h
      obtain ⟨rfl, h2, _⟩ := h
      obtain ⟨p, rfl, h3⟩ := ((Good.value 8).at_ s).ok _ _ hv
      have hp : a = p.length := by simp only [List.length_append] at h2; omega
      obtain ⟨k1, c', t', hc, k2, k3⟩ := key p (c :: t) rfl hp (by simp)
      cases hc
      rw [k1, k3]
      refine ⟨?_, .inl ?_⟩
      · unfold jread
        rw [h3 (c :: b) (.inr rfl)]
        refine ⟨jv0, ?_⟩
        simp only [Prod.mk.injEq, and_true, true_and]
        simp only [List.length_append]; omega
      · unfold jread
        have := h3 [] (.inl rfl)
        rw [List.append_nil] at this
        rw [this]
        exact ⟨w, rfl⟩
  | er r =>
    rw [hv] at h
    simp only [Prod.mk.injEq] at h
    obtain ⟨rfl, h2, _⟩ := h
    obtain ⟨p, rfl, h3⟩ := ((Good.value 8).at_ s).er _ hv
    have hp : a = p.length := by simp only [List.length_append] at h2; omega
    have hr : r ≠ [] := by rintro rfl; simp at ha; omega
    obtain ⟨k1, c, t, rfl, k2, k3⟩ := key p r rfl hp hr
    rw [k2] at hn
    obtain ⟨h4, h5⟩ := h3 hn
    rw [k1, k3]
    refine ⟨?_, ?_⟩
    · unfold jread
      rw [h4 (c :: b) rfl]
      refine ⟨jv0, ?_⟩
      simp only [Prod.mk.injEq, and_true, true_and]
      simp only [List.length_append]; omega
    · unfold jread
      rcases h5 with h5 | ⟨w, h5⟩
      · right
        rw [h5]
        refine ⟨jv0, ?_⟩
        simp only [Prod.mk.injEq, and_true, true_and, List.length_nil]
        omega
      · left
        rw [h5]
        exact ⟨w, rfl⟩
end Go.Proofs.YtkbpndohpkcikaaDoor.Js
