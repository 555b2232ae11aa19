/-
  OutboxOnce, plain: what a map of marks says of an outbox; an outbox beside blocks of the statement's own.
-/
import Derived.Test.YtnkhdipbljfohaaObActs
import Derived.Test.YtnkhdipbljfohaaMap
namespace Go.Proofs.Ytnkhdipbljfohaa
open Go.RowKit

/-- a map of whole numbers, as values -/
def hv (c : Int → Option Nat) : Int → Option Value := fun x => (c x).map fun n => .int .i64 (n : Int)

def Noted (o : Ob) (c : Int → Option Nat) : Prop := ∀ x n, c x = some n → ∃ k : Nat, x = (k : Int) ∧ k < o.data.length ∧ (n = 0 ∨ (n = 1 ∧ o.st[k]? = some 1) ∨ (n = 2 ∧ o.st[k]? = some 3))

def marked (c : Int → Option Nat) (a n : Nat) : Int → Option Nat := fun x => if (a : Int) ≤ x ∧ x < (a : Int) + n then some 1 else c x
def turned (x : PAct) (y : Int) (n : Nat) : Nat := if (x.at_ : Int) ≤ y ∧ y - x.at_ < x.m ∧ n = 1 then (if x.kind = 2 then 2 else if x.kind = 3 then 0 else n) else n
/-- a round over the map, part of the keys still left -/
def midway (x : PAct) (c : Int → Option Nat) (left : Int → Bool) : Int → Option Nat := fun y => (c y).map fun n => if left y then n else turned x y n

theorem marked_zero (c : Int → Option Nat) (a : Nat) : marked c a 0 = c := by
  funext x; unfold marked; rw [if_neg]; omega
theorem marked_step (c : Int → Option Nat) (a k : Nat) : upd (hv (marked c a k)) ((a : Int) + k) (some (.int .i64 1)) = hv (marked c a (k + 1)) := by
  funext x
  unfold upd hv marked
  by_cases h : x = (a : Int) + k
  · subst h
    rw [if_pos rfl, if_pos (by omega)]; rfl
  · rw [if_neg h]
    by_cases h2 : (a : Int) ≤ x ∧ x < (a : Int) + k
    · rw [if_pos h2, if_pos (by omega)]
    · rw [if_neg h2, if_neg (by omega)]
theorem marked_next (c : Int → Option Nat) (a k : Nat) : marked c a k ((a : Int) + k) = c ((a : Int) + k) := by
  unfold marked; rw [if_neg]; omega
theorem midway_start (x : PAct) (c : Int → Option Nat) : midway x c (fun y => (hv c y).isSome) = c := by
  funext y
  unfold midway hv
  cases hc : c y <;> simp [hc]
theorem midway_end (x : PAct) (c : Int → Option Nat) {left : Int → Bool} (h : ∀ y, left y = false) : midway x c left = fun y => (c y).map (turned x y) := by
  funext y
  unfold midway
  cases c y <;> simp [h y]
theorem midway_keep (x : PAct) (c : Int → Option Nat) (left : Int → Bool) (y : Int) (n : Nat) (hc : c y = some n) (ht : turned x y n = n) : midway x c (fun z => left z && !(z == y)) = midway x c left := by
  funext z
  unfold midway
  by_cases hz : z = y
  · subst hz
    rw [hc]
    cases left z <;> simp [ht]
  · have : (z == y) = false := by simpa using hz
    simp [this]
theorem midway_turn (x : PAct) (c : Int → Option Nat) (left : Int → Bool) (y : Int) (n m : Nat) (hc : c y = some n) (ht : turned x y n = m) :
    upd (hv (midway x c left)) y (some (.int .i64 (m : Int))) = hv (midway x c (fun z => left z && !(z == y))) := by
  funext z
  unfold upd hv midway
  by_cases hz : z = y
  · subst hz
    rw [if_pos rfl, hc]
    simp [ht]
  · have : (z == y) = false := by simpa using hz
    rw [if_neg hz]
    simp [this]
theorem midway_left {x : PAct} {c : Int → Option Nat} {left : Int → Bool} {y : Int} {v : Value} (hl : left y = true) (h : hv (midway x c left) y = some v) : ∃ n : Nat, c y = some n ∧ v = .int .i64 n := by
  unfold hv midway at h
  cases hc : c y with
  | none => rw [hc] at h; cases h
  | some n => rw [hc] at h; simp [hl] at h; exact ⟨n, rfl, h.symm⟩

/-- what goes was not sent yet, or is lost -/
theorem Ob.Good.goesFree {o : Ob} (h : o.Good) {k : Nat} (hk : k < o.first.2) : o.st[o.first.1 + k]? = some 0 ∨ o.st[o.first.1 + k]? = some 2 := by
  have h1 := h.wf.first
  have h2 := h.wf.stl
  unfold Ob.first at hk h1 ⊢
  split
  · rename_i h0
    rw [if_pos h0] at hk
    right
    exact runAt_all hk
  · rename_i h0
    rw [if_neg h0] at hk h1
    simp only at hk h1 ⊢
    left
    obtain ⟨y, hy⟩ : ∃ y, o.st[o.sent + k]? = some y := ⟨_, List.getElem?_eq_getElem (by omega)⟩
    have := (h.un (o.sent + k) y (by omega) hy).2 (by omega)
    rw [hy, this]

theorem Noted.free {o : Ob} {c : Int → Option Nat} (hn : Noted o c) (h : o.Good) (x : PAct) (hk : x.kind = 1) (k : Nat) (hkl : k < (o.played x).s.length) :
    (c (((o.played x).at_ : Int) + k)).getD 0 = 0 := by
  have e2 : o.played x = ⟨(o.nextTold x.num).at_, (o.nextTold x.num).s, (o.nextTold x.num).fin, (o.nextTold x.num).is_, 0⟩ := by simp [Ob.played, hk]
  rw [e2] at hkl ⊢
  simp only at hkl ⊢
  rcases h.told x.num with ⟨t1, _⟩ | ⟨_, _, t2, t3, _⟩
  · rw [t1] at hkl; simp at hkl
  · rw [t2]
    rw [t3] at hkl
    have hf := h.goesFree (k := k) (Nat.lt_of_lt_of_le hkl (o.much_le _))
    cases hc : c ((o.first.1 : Int) + k) with
    | none => rfl
    | some n =>
      obtain ⟨j, hj, _, h3⟩ := hn _ _ hc
      have : j = o.first.1 + k := by omega
      subst this
      rcases h3 with h3 | ⟨_, h3⟩ | ⟨_, h3⟩
      · exact h3
      · rw [h3] at hf; simp at hf
      · rw [h3] at hf; simp at hf

theorem Noted.turnOff {c : Int → Option Nat} {x : PAct} (h : x.kind ≠ 2) (h3 : x.kind ≠ 3) : (fun y => (c y).map (turned x y)) = c := by
  funext y
  have : ∀ n, turned x y n = n := fun n => by unfold turned; rw [if_neg h, if_neg h3]; simp
  cases c y <;> simp [this]

theorem each_get {o : Ob} {f : UInt8 → UInt8} {a n : Nat} {fin : Bool} {k : Nat} (hk : k < o.data.length) :
    (o.each f a n fin).st[k]? = o.st[k]?.map fun y => if a ≤ k ∧ k < a + n then f y else y := by
  have hs : ∀ s : List UInt8, (mapAt f s o.data.length 1)[k]? = s[k]? := fun s => by
    rw [mapAt_get]
    cases s[k]? with
    | none => rfl
    | some y => simp; intro h; omega
  have h1 : (mapAt f o.st (min a o.data.length) (min n (o.data.length - min a o.data.length)))[k]? = o.st[k]?.map fun y => if a ≤ k ∧ k < a + n then f y else y := by
    rw [mapAt_get]
    congr 1
    funext y
    by_cases h : a ≤ k ∧ k < a + n
    · rw [if_pos h, if_pos (by omega)]
    · rw [if_neg h, if_neg (by omega)]
  simp only [Ob.each]
  split
  · rw [hs, h1]
  · exact h1

theorem Noted.play {o : Ob} {c : Int → Option Nat} (hn : Noted o c) (h : o.Good) (x : PAct) :
    Noted (o.play x) (fun y => ((if x.kind = 1 ∧ (o.played x).is_ = true then marked c (o.played x).at_ (o.played x).s.length else c) y).map (turned x y)) := by
  by_cases hk1 : x.kind = 1
  · have e1 : o.play x = o.next x.num := by simp [Ob.play, hk1]
    have e2 : o.played x = ⟨(o.nextTold x.num).at_, (o.nextTold x.num).s, (o.nextTold x.num).fin, (o.nextTold x.num).is_, 0⟩ := by simp [Ob.played, hk1]
    rw [e1, e2, Noted.turnOff (by omega) (by omega)]
    rcases h.told x.num with ⟨t1, t7⟩ | ⟨_, t0, t2, t3, t4, t5, t6, t7, t8, t9⟩
    · rw [t7, t1]
      simp
      exact hn
    · rw [t7, if_pos ⟨hk1, t0⟩]
      show Noted _ (marked c (o.nextTold x.num).at_ (o.nextTold x.num).s.length)
      intro y n hy
      have hget : ∀ k : Nat, k < o.data.length → (o.takeEnd (o.nextTold x.num).at_ (o.nextTold x.num).s.length).st[k]? =
          o.st[k]?.map fun y => if (o.nextTold x.num).at_ ≤ k ∧ k < (o.nextTold x.num).at_ + (o.nextTold x.num).s.length then 1 else y := by
        intro k hk
        have h1 : (o.take (o.nextTold x.num).at_ (o.nextTold x.num).s.length).st[k]? = o.st[k]?.map fun y => if (o.nextTold x.num).at_ ≤ k ∧ k < (o.nextTold x.num).at_ + (o.nextTold x.num).s.length then 1 else y := by
          simp only [Ob.take]; rw [mapAt_get]
        unfold Ob.takeEnd
        split
        · simp only
          rw [List.getElem?_set_ne (by omega), h1]
        · exact h1
      rw [Ob.takeEnd_data]
      unfold marked at hy
      split at hy
      · rename_i hr
        cases hy
        obtain ⟨k, rfl⟩ := Int.eq_ofNat_of_zero_le (by omega : 0 ≤ y)
        have hkd : k < o.data.length := by omega
        have hst := h.wf.stl
        refine ⟨k, rfl, hkd, .inr (.inl ⟨rfl, ?_⟩)⟩
        rw [hget k hkd, List.getElem?_eq_getElem (by omega)]
        simp only [Option.map_some]
        rw [if_pos (by omega)]
      · rename_i hr
        obtain ⟨k, rfl, hkd, h3⟩ := hn _ _ hy
        refine ⟨k, rfl, hkd, ?_⟩
        rw [hget k hkd]
        have : ¬ ((o.nextTold x.num).at_ ≤ k ∧ k < (o.nextTold x.num).at_ + (o.nextTold x.num).s.length) := by omega
        simp only [this, if_false, Option.map_id']
        exact h3
  · rw [if_neg (fun h => hk1 h.1)]
    by_cases hk2 : x.kind = 2
    · have e1 : o.play x = o.each ackOf x.at_ x.m x.fin := by simp [Ob.play, hk2]
      rw [e1]
      intro y n hy
      replace hy : (c y).map (turned x y) = some n := hy
      cases hc : c y with
      | none => rw [hc] at hy; cases hy
      | some n0 =>
        rw [hc] at hy
        simp only [Option.map_some, Option.some.injEq] at hy
        obtain ⟨k, rfl, hkd, h3⟩ := hn _ _ hc
        refine ⟨k, rfl, hkd, ?_⟩
        rw [each_get hkd]
        unfold turned at hy
        rw [if_pos hk2] at hy
        rcases h3 with rfl | ⟨rfl, h3⟩ | ⟨rfl, h3⟩
        · left
          rw [if_neg (by omega)] at hy
          exact hy.symm
        · rw [h3]
          by_cases hin : x.at_ ≤ k ∧ k < x.at_ + x.m
          · rw [if_pos (by omega)] at hy
            right; right
            refine ⟨hy.symm, ?_⟩
            simp only [Option.map_some]
            rw [if_pos hin]
            rfl
          · rw [if_neg (by omega)] at hy
            right; left
            refine ⟨hy.symm, ?_⟩
            simp only [Option.map_some]
            rw [if_neg hin]
        · rw [if_neg (by omega)] at hy
          right; right
          refine ⟨hy.symm, ?_⟩
          rw [h3]
          simp only [Option.map_some]
          split <;> rfl
    · by_cases hk3 : x.kind = 3
      · have e1 : o.play x = o.each loseOf x.at_ x.m x.fin := by simp [Ob.play, hk3]
        rw [e1]
        intro y n hy
        replace hy : (c y).map (turned x y) = some n := hy
        cases hc : c y with
        | none => rw [hc] at hy; cases hy
        | some n0 =>
          rw [hc] at hy
          simp only [Option.map_some, Option.some.injEq] at hy
          obtain ⟨k, rfl, hkd, h3⟩ := hn _ _ hc
          refine ⟨k, rfl, hkd, ?_⟩
          rw [each_get hkd]
          unfold turned at hy
          rw [if_neg hk2, if_pos hk3] at hy
          rcases h3 with rfl | ⟨rfl, h3⟩ | ⟨rfl, h3⟩
          · left
            rw [if_neg (by omega)] at hy
            exact hy.symm
          · rw [h3]
            by_cases hin : x.at_ ≤ k ∧ k < x.at_ + x.m
            · rw [if_pos (by omega)] at hy
              left
              exact hy.symm
            · rw [if_neg (by omega)] at hy
              right; left
              refine ⟨hy.symm, ?_⟩
              simp only [Option.map_some]
              rw [if_neg hin]
          · rw [if_neg (by omega)] at hy
            right; right
            refine ⟨hy.symm, ?_⟩
            rw [h3]
            simp only [Option.map_some]
            split <;> rfl
      · rw [Noted.turnOff hk2 hk3]
        intro y n hy
        obtain ⟨k, rfl, hkd, h3⟩ := hn _ _ hy
        refine ⟨k, rfl, ?_, ?_⟩
        · unfold Ob.play Ob.write Ob.raise Ob.resetNow
          (repeat' split) <;> first | exact hkd | (simp only [List.length_append]; omega) | (exfalso; omega)
        · have : (o.play x).st[k]? = o.st[k]? := by
            have hst := h.wf.stl
            unfold Ob.play Ob.write Ob.raise Ob.resetNow
            (repeat' split) <;> first | rfl | (simp only [List.append_assoc]; rw [List.getElem?_append_left (by omega)]) | (exfalso; omega)
          rw [this]
          exact h3

/-! ### an outbox beside other blocks -/
def Aside (W w : World) (b : Nat) (o : Ob) (S : List Nat) : Prop :=
  ∃ dv sv, OBox w b o dv sv ∧ Mod [] W w ∧ (∀ k ∈ ofoot b dv sv, W.heap.size ≤ k) ∧ ∀ m ∈ S, W.heap.size ≤ m ∧ m < w.heap.size ∧ m ∉ ofoot b dv sv

section
variable {W w w' : World} {b : Nat} {o : Ob} {S : List Nat}
theorem Aside.of (h : Mine W w b o) : Aside W w b o [] := by
  obtain ⟨dv, sv, h1, h2, h3⟩ := h
  exact ⟨dv, sv, h1, h2, h3, by simp⟩
theorem Aside.frame (h : Aside W w b o S) : Mod [] W w := by
  obtain ⟨dv, sv, _, h2, _⟩ := h
  exact h2
theorem Aside.foot_lt {dv sv : Value} (h : OBox w b o dv sv) : ∀ k ∈ ofoot b dv sv, k < w.heap.size := by
  intro k hk
  simp only [ofoot, List.mem_cons, List.mem_append, Option.mem_toList] at hk
  rcases hk with rfl | hk | hk
  · exact h.blk.lt
  · exact own_lt h.dat k hk
  · exact own_lt h.sta k hk
theorem Aside.mod {F : List Nat} (h : Aside W w b o S) (hm : Mod F w w') (hF : ∀ x ∈ F, x ∈ S) : Aside W w' b o S := by
  obtain ⟨dv, sv, h1, h2, h3, h4⟩ := h
  have := hm.size
  exact ⟨dv, sv, h1.mod hm (fun k hk hf => (h4 k (hF k hf)).2.2 hk), h2.trans hm (fun x hx => .inr (h4 x (hF x hx)).1), h3, fun m hs => ⟨(h4 m hs).1, by have := (h4 m hs).2.1; omega, (h4 m hs).2.2⟩⟩
theorem Aside.push (h : Aside W w b o S) (hm : Mod [] w w') {m : Nat} (h1 : w.heap.size ≤ m) (h2 : m < w'.heap.size) : Aside W w' b o (m :: S) := by
  obtain ⟨dv, sv, k1, k2, k3, k4⟩ := h
  have := hm.size
  have := k2.size
  refine ⟨dv, sv, k1.mod hm (by simp), k2.trans hm (by simp), k3, fun j hj => ?_⟩
  rcases List.mem_cons.1 hj with rfl | hj
  · exact ⟨by omega, h2, fun hk => by have := Aside.foot_lt k1 _ hk; omega⟩
  · exact ⟨(k4 j hj).1, by have := (k4 j hj).2.1; omega, (k4 j hj).2.2⟩
theorem Aside.less {S' : List Nat} (h : Aside W w b o S) (hs : ∀ x ∈ S', x ∈ S) : Aside W w b o S' := by
  obtain ⟨dv, sv, k1, k2, k3, k4⟩ := h
  exact ⟨dv, sv, k1, k2, k3, fun m hm => k4 m (hs m hm)⟩
theorem Aside.lift {P : Program} {f : FuncId} {args : Array Value} {o' : Ob} {v : Ending} (h : Aside W w b o S)
    (hc : ∀ dv sv, OBox w b o dv sv → Calls P f args w fun e w' => e = v ∧ OStep w b dv sv o' w') :
    Calls P f args w fun e w' => e = v ∧ Aside W w' b o' S ∧ ∃ F, Mod F w w' ∧ ∀ m ∈ S, m ∉ F := by
  obtain ⟨dv, sv, h1, h2, h3, h4⟩ := h
  refine (hc dv sv h1).mono fun e w' ⟨he, hs⟩ => ⟨he, ?_⟩
  obtain ⟨dv', sv', k1, k2, k3⟩ := hs
  have h5 := h2.size
  have h6 := k2.size
  refine ⟨⟨dv', sv', k1, h2.trans k2 (fun x hx => .inr (h3 x hx)), fun k hk => ?_, fun m hm => ⟨(h4 m hm).1, by have := (h4 m hm).2.1; omega, fun hk => ?_⟩⟩, _, k2, fun m hm => (h4 m hm).2.2⟩
  · rcases k3 k hk with h | h
    · exact h3 k h
    · omega
  · rcases k3 m hk with h | h
    · exact (h4 m hm).2.2 h
    · have := (h4 m hm).2.1; omega
theorem aside_played (h : Aside W w b o S) (x : PAct) (hx : x.OK) (hd : x.data.size ≤ 200) (p : Played) (o' : Ob) (hp : o.played x = p) (ho : o.play x = o') :
    Calls Try.prog 12 #[.pointer (some ⟨b, 0, none⟩), x.val] w fun e w' =>
      e = .returned (.tuple #[.int .u64 (p.at_ : Nat), .string ⟨p.s.toArray⟩, .bool p.fin, .bool p.is_, .int .i64 p.e]) ∧ Aside W w' b o' S ∧ ∃ F, Mod F w w' ∧ ∀ m ∈ S, m ∉ F := by
  subst hp ho
  exact h.lift fun dv sv hb => play_any w b o dv sv hb x hx hd
end
end Go.Proofs.Ytnkhdipbljfohaa
