/-
  json, plain: what is read is written about as long.
-/
import Derived.Test.YtkbpndohpkcikaaDoorJsWtP
namespace Go.Proofs.YtkbpndohpkcikaaDoor
open Go.RowKit Js
set_option linter.unusedVariables false
set_option linter.unusedSimpArgs false
theorem tob_data (l : List UInt8) : (tob l).data.toList = l := by simp [tob]
theorem jsp_le (s : List UInt8) : (jsp s).length ≤ s.length := by
  unfold jsp
  induction s with
  | nil => simp
  | cons c t ih =>
    rw [List.dropWhile_cons]
    split
    · simp only [List.length_cons]; omega
    · exact Nat.le_refl _
theorem txt_len (n : Nat) : ∀ (s l r : List UInt8), jtxt n s = .ok l r → l.length + 1 + r.length ≤ s.length := by
  induction n with
  | zero => intro s l r h; cases h
  | succ n ih =>
    intro s l r h
    rw [jtxt] at h
    obtain ⟨c, t, h1, ha⟩ := bind_ok h
    clear h
    obtain ⟨rfl, _⟩ := take_ok h1
    by_cases hc : c = 34
    · rw [if_pos hc] at ha; cases ha; simp only [List.length_cons, List.length_nil]; omega
    · rw [if_neg hc] at ha
      obtain ⟨b, r1, h2, hb⟩ := bind_ok ha
      obtain ⟨l', r2, h3, he⟩ := bind_ok hb
      cases he
      have h4 := ih _ _ _ h3
      have h5 := ((Good.escq c).at_ t).le h2
      simp only [List.length_cons]; omega
theorem text_len {s l r : List UInt8} (h : jtext s = .ok l r) : l.length + 2 + r.length ≤ s.length := by
  unfold jtext at h
  obtain ⟨c, t, h1, ha⟩ := bind_ok h
  clear h
  obtain ⟨rfl, _⟩ := take_ok h1
  have := txt_len _ _ _ _ ha
  simp only [List.length_cons]; omega
theorem key_len {s l r : List UInt8} (h : jkey s = .ok l r) : l.length + 3 + r.length ≤ s.length := by
  unfold jkey at h
  obtain ⟨k, r1, h1, h⟩ := bind_ok h
  obtain ⟨c, r2, h2, h⟩ := bind_ok h
  cases h
  have h3 := text_len h1
  obtain ⟨h4, _⟩ := take_ok h2
  have h5 := jsp_le s
  have h6 := jsp_le r1
  rw [h4] at h6
  simp only [List.length_cons] at h6; omega
theorem word_len : ∀ (w s r : List UInt8) (u : Unit), jword w s = .ok u r → w.length + r.length ≤ s.length
  | [], s, r, u, h => by cases h; simp
  | c :: w, s, r, u, h => by
    rw [jword] at h
    obtain ⟨d, t, h1, ha⟩ := bind_ok h
    clear h
    obtain ⟨rfl, _⟩ := take_ok h1
    have := word_len w t r u ha
    simp only [List.length_cons]; omega
theorem dw_le (f : UInt8 → Bool) (s : List UInt8) : (s.dropWhile f).length ≤ s.length := by
  induction s with
  | nil => simp
  | cons c t ih =>
    rw [List.dropWhile_cons]
    split
    · simp only [List.length_cons]; omega
    · exact Nat.le_refl _
theorem dig_len {neg : Bool} {s l r : List UInt8} (h : jdig neg s = .ok l r) : 1 + r.length ≤ s.length := by
  unfold jdig at h
  obtain ⟨c, t, h1, ha⟩ := bind_ok h
  clear h
  obtain ⟨rfl, _⟩ := take_ok h1
  have := dw_le isDi t
  split at ha <;> cases ha <;> simp only [List.length_cons] <;> omega
theorem number_len {s r : List UInt8} {i : Int} (h : jnumber s = .ok i r) : 1 + r.length ≤ s.length := by
  unfold jnumber at h
  cases hs : jsig s with
  | er e => rw [hs] at h; cases h
  | ok x k =>
    rw [hs] at h
    simp only at h
    have hk : k = r := by
      split at h
      · cases h; rfl
      · cases h
    subst hk
    unfold jsig at hs
    split at hs
    · obtain ⟨a, b, h1, h2⟩ := bind_ok hs
      cases h2
      have := dig_len h1
      simp only [List.length_tail] at this; omega
    · obtain ⟨a, b, h1, h2⟩ := bind_ok hs
      cases h2
      exact dig_len h1
def JwLen (P : Pa JV) : Prop := ∀ s v r, P s = .ok v r → (jwr v).length + 9 + 30 * r.length ≤ 30 * s.length
theorem jwrsR_one (obj : Bool) (l : List JV) (ks : List ByteArray) : (jwrsR obj l ks).length ≤ (jwrs obj l ks).length + 1 := by
  cases l with
  | nil => simp [jwrsR]
  | cons x l => rw [jwrsR, jwrs]; simp
theorem keyed_len (obj : Bool) (k : List (List UInt8)) (s r : List UInt8) (h : jfront obj s = .ok k r) (ks : List (List UInt8)) :
    (jkeyed obj ((k ++ ks).map tob)).length + 30 * r.length ≤ 30 * s.length ∧ (obj = true → ((k ++ ks).map tob).tail = ks.map tob) ∧ (obj = false → k = []) := by
  cases obj with
  | true =>
    unfold jfront at h
    simp only [if_true] at h
    obtain ⟨a, q, h1, h⟩ := bind_ok h
    cases h
    have h2 := key_len h1
    have h3 := quo_le a
    refine ⟨?_, (fun _ => rfl), (fun h => by cases h)⟩
    simp only [jkeyed, if_true, List.cons_append, List.nil_append, List.map_cons, List.headD_cons, tob_data, List.length_append, List.length_cons, List.length_nil]
    omega
  | false =>
    cases h
    exact ⟨by simp [jkeyed], (fun h => by cases h), (fun _ => rfl)⟩
theorem many_len {P : Pa JV} (hg : Js.Good P) (hP : JwLen P) (obj : Bool) (n : Nat) : ∀ (s : List UInt8) (x : List JV × List (List UInt8)) (r : List UInt8), s.length < n → jmanyT P obj s = .ok x r → (jwrs obj x.1 (x.2.map tob)).length + 30 * r.length ≤ 30 * s.length := by
  induction n with
  | zero => intro s x r h; omega
  | succ n ih =>
    intro s x r hl h
    rw [jmanyT_eq hg] at h
    unfold jstep at h
    obtain ⟨k, r1, h1, ha⟩ := bind_ok h
    obtain ⟨v, r2, h2, hb⟩ := bind_ok ha
    obtain ⟨c, r3, h3, he⟩ := bind_ok hb
    clear h ha hb
    have m1 := hP _ _ _ h2
    have l1 := ((Good.front obj).at_ s).le h1
    obtain ⟨rfl, _⟩ := take_ok h3
    simp only [List.length_cons] at m1
    by_cases hc : (c == (if obj then 125 else 93)) = true
    · rw [if_pos hc] at he
      cases he
      have h4 := (keyed_len obj k s r1 h1 []).1
      rw [List.append_nil] at h4
      simp only [jwrs, jwrsR, List.length_append, List.length_nil]
      omega
    · rw [if_neg hc] at he
      obtain ⟨y, r4, h4, hf⟩ := bind_ok he
      cases hf
      have h5 := ih r3 y _ (by omega) h4
      obtain ⟨h6, h7, h8⟩ := keyed_len obj k s r1 h1 y.2
      simp only [jwrs, List.length_append]
      have h9 : (jwrsR obj y.1 (List.map tob (k ++ y.2)).tail).length ≤ (jwrs obj y.1 (y.2.map tob)).length + 1 := by
        cases obj with
        | true => rw [h7 rfl]; exact jwrsR_one _ _ _
        | false =>
          rw [h8 rfl]
          have : ∀ (l : List JV) (a b : List ByteArray), (jwrsR false l a).length = (jwrsR false l b).length := by
            intro l
            induction l with
            | nil => intro a b; simp [jwrsR]
            | cons x l ih => intro a b; simp only [jwrsR, jkeyed, Bool.false_eq_true, if_false, List.nil_append, List.length_cons, List.length_append, ih a.tail b.tail]
          rw [this _ _ (y.2.map tob)]
          exact jwrsR_one _ _ _
      omega
theorem list_len {P : Pa JV} (hg : Js.Good P) (hP : JwLen P) {obj : Bool} {s r : List UInt8} {x : List JV × List (List UInt8)} (h : jlist P obj s = .ok x r) : (jwrs obj x.1 (x.2.map tob)).length + 30 * r.length ≤ 30 * s.length := by
  unfold jlist at h
  simp only at h
  have h1 := jsp_le s
  by_cases hc : (jsp s).head? = some (if obj then 125 else 93)
  · rw [if_pos hc] at h
    cases h
    simp only [jwrs, List.length_nil, List.length_tail]
    omega
  · rw [if_neg hc] at h
    have := many_len hg hP obj _ _ _ _ (Nat.lt_succ_self _) h
    omega
theorem head_len {s : List UInt8} {c : UInt8} (h : s.head? = some c) : s.length = s.tail.length + 1 := by
  cases s with
  | nil => cases h
  | cons a t => rfl
theorem val_len : ∀ (d : Nat), JwLen (jvalue d)
  | 0 => fun s v r h => by cases h
  | d + 1 => fun s v r h => by
    rw [jvalue] at h
    obtain ⟨w, k, h1, h⟩ := bind_ok h
    cases h
    have hs := jsp_le s
    have hk := jsp_le k
    unfold jval1 at h1
    repeat' split at h1
    · obtain ⟨_, _, hx, h⟩ := bind_ok h1; cases h
      have := word_len _ _ _ _ hx
      simp only [List.length_cons, List.length_nil] at this
      simp [jwr]; omega
    · obtain ⟨_, _, hx, h⟩ := bind_ok h1; cases h
      have := word_len _ _ _ _ hx
      simp only [List.length_cons, List.length_nil] at this
      simp [jwr]; omega
    · obtain ⟨_, _, hx, h⟩ := bind_ok h1; cases h
      have := word_len _ _ _ _ hx
      simp only [List.length_cons, List.length_nil] at this
      simp [jwr]; omega
    · obtain ⟨t, _, hx, h⟩ := bind_ok h1; cases h
      have h2 := text_len hx
      have h3 := quo_le t
      have h4 : jwr (.mk 4 0 (tob t) [] []) = quo t := by rw [jwr, if_neg (by decide), if_neg (by decide), if_neg (by decide), if_neg (by decide), if_pos rfl, tob_data]
      rw [h4]; omega
    · rename_i hh
      obtain ⟨x, _, hx, h⟩ := bind_ok h1
      cases h
      have h2 := list_len (Good.value d) (val_len d) hx
      have h3 := head_len hh
      rw [jwr, if_neg (by decide), if_neg (by decide), if_neg (by decide), if_neg (by decide), if_neg (by decide), if_neg (by decide)]
      simp only [List.length_cons, List.length_append, List.length_nil]; omega
    · rename_i hh
      obtain ⟨x, _, hx, h⟩ := bind_ok h1
      cases h
      have h2 := list_len (Good.value d) (val_len d) hx
      have h3 := head_len hh
      rw [jwr, if_neg (by decide), if_neg (by decide), if_neg (by decide), if_neg (by decide), if_neg (by decide), if_pos rfl]
      simp only [List.length_cons, List.length_append, List.length_nil]; omega
    · obtain ⟨x, _, hx, h⟩ := bind_ok h1
      cases h
      have h2 := number_len hx
      have h3 := itoa_le (number_rng hx)
      rw [jwr, if_neg (by decide), if_neg (by decide), if_neg (by decide), if_pos rfl]
      omega
theorem jread_len {s : List UInt8} {v : JV} {a : Int} (h : jread s = (v, a, 0)) : (jwr v).length + 9 ≤ 30 * s.length := by
  unfold jread at h
  split at h
  · rename_i v' hv
    cases h
    have := val_len _ _ _ _ hv
    simp only [List.length_nil] at this; omega
  · cases h
  · cases h
end Go.Proofs.YtkbpndohpkcikaaDoor
