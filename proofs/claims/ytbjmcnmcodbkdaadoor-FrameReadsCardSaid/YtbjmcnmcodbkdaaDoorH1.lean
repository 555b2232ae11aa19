/-
  Contracts of the document's package, part 1 of 8: FrRfP, FrRf1, FrRf2, FrRf3a.
-/
import Derived.Test.YtbjmcnmcodbkdaaDoorG2
import Derived.Test.YtbjmcnmcodbkdaaDoorG6
import Derived.Outline
import Derived.Test.YtbjmcnmcodbkdaaDoorG3
import Derived.Deep.Cut

/-
  frames, plain: the reference's head guesses the frame that was written.
-/
namespace Go.Proofs.YtbjmcnmcodbkdaaDoor
open Go.RowKit

def vnum (s : List UInt8) : Option (Nat × List UInt8) := if (vtake s).e = 0 then some ((vtake s).n, (vtake s).rest) else none
theorem vnum_put {n : Nat} (hn : n < 4611686018427387904) (r : List UInt8) : vnum (vputS n ++ r) = some (n, r) := by
  unfold vnum
  rw [vputS_eq hn, vtake_put n hn r]
  rfl
def vnums : Nat → List UInt8 → Option (List Nat × List UInt8)
  | 0, s => some ([], s)
  | n + 1, s => (vnum s).bind fun x => (vnums n x.2).map fun y => (x.1 :: y.1, y.2)
theorem vnums_put : ∀ (ns : List Nat) (r : List UInt8), (∀ n ∈ ns, n < 4611686018427387904) → vnums ns.length ((ns.map vputS).flatten ++ r) = some (ns, r)
  | [], r, _ => rfl
  | n :: ns, r, h => by
    rw [List.length_cons, List.map_cons, List.flatten_cons, List.append_assoc, vnums, vnum_put (h n (by simp))]
    simp only [Option.bind_some]
    rw [vnums_put ns r (fun m hm => h m (by simp [hm]))]
    rfl
/-- how many of A, B, C a kind tells; none: there is no such kind -/
def fnumbers (k : Nat) : Option Nat :=
  if k = 5 ∨ k = 8 ∨ k = 17 ∨ k = 21 ∨ k = 24 ∨ k = 28 then some 2
  else if k = 1 ∨ k = 7 ∨ k = 26 ∨ k = 27 ∨ k = 30 then some 0
  else if k = 0 ∨ k = 2 ∨ k = 6 ∨ k = 16 ∨ k = 18 ∨ k = 19 ∨ k = 20 ∨ k = 22 ∨ k = 23 ∨ k = 25 ∨ k = 29 then some 1
  else if k = 3 ∨ k = 4 then some 3
  else none
def fdata (k : Nat) : Bool := decide (k = 6) || decide (k = 7) || decide (k = 8) || decide (k = 24) || decide (k = 26) || decide (k = 27) || decide (k = 28) || decide (k = 29)
def hrng : Nat → Nat → List UInt8 → Option (List (Nat × Nat) × List UInt8)
  | 0, _, s => some ([], s)
  | k + 1, low, s => (vnums 2 s).bind fun x => if low < x.1.getD 0 0 + 2 ∨ low - x.1.getD 0 0 - 2 < x.1.getD 1 0 then none else
      (hrng k (low - x.1.getD 0 0 - 2 - x.1.getD 1 0) x.2).map fun y => ((low - x.1.getD 0 0 - 2 - x.1.getD 1 0, low - x.1.getD 0 0 - 2) :: y.1, y.2)
def hacked (k : Nat) (s : List UInt8) : Option Fr :=
  (vnums 4 s).bind fun x => if 63 < x.1.getD 2 0 ∨ x.1.getD 0 0 < x.1.getD 3 0 then none else
    (hrng (x.1.getD 2 0) (x.1.getD 0 0 - x.1.getD 3 0) x.2).bind fun y =>
      if k = 3 then (vnums 3 y.2).map fun z => ⟨k, x.1.getD 1 0, z.1.getD 0 0, z.1.getD 1 0, false, ⟨#[]⟩, ⟨(be (z.1.getD 2 0) 8).toArray⟩, (x.1.getD 0 0 - x.1.getD 3 0, x.1.getD 0 0) :: y.1⟩
      else some ⟨k, x.1.getD 1 0, 0, 0, false, ⟨#[]⟩, ⟨#[]⟩, (x.1.getD 0 0 - x.1.getD 3 0, x.1.getD 0 0) :: y.1⟩
def hended (f : Fr) (s : List UInt8) : Option Fr :=
  if f.kind = 26 ∨ f.kind = 27 then (if s.length < 8 then none else some { f with data := ⟨(s.take 8).toArray⟩ })
  else if f.kind = 24 then (match s with
    | [] => none
    | n :: t => if s.length < 17 + n.toNat then none else some { f with data := ⟨(t.take n.toNat).toArray⟩, more := ⟨((t.drop n.toNat).take 16).toArray⟩ })
  else if fdata f.kind = false then some f
  else (vnum s).bind fun x => if x.2.length < x.1 then none else some { f with data := ⟨(x.2.take x.1).toArray⟩ }
def hkind (k : Nat) : Nat := if 8 ≤ k ∧ k ≤ 15 then 8 else k
def hmany (k : Nat) : Option Nat := if 8 ≤ k ∧ k < 12 then some 1 else fnumbers (hkind k)
def phead (s : List UInt8) : Option Fr :=
  (vnum s).bind fun k => if k.1 = 2 ∨ k.1 = 3 then hacked k.1 k.2
    else if k.1 = 0 then some ⟨0, min (zeros s) 16384, 0, 0, false, ⟨#[]⟩, ⟨#[]⟩, []⟩
    else (hmany k.1).bind fun m => (vnums m k.2).bind fun x => hended ⟨hkind k.1, x.1.getD 0 0, x.1.getD 1 0, x.1.getD 2 0, decide (8 ≤ k.1 ∧ k.1 ≤ 15) && decide (k.1 % 2 = 1), ⟨#[]⟩, ⟨#[]⟩, []⟩ x.2

theorem hrng_put : ∀ (t : List (Nat × Nat)) (low : Nat) (r : List UInt8), low < 4611686018427387904 → rngOk (some low) t = true → hrng t.length low (rbytes low t ++ r) = some (t, r)
  | [], low, r, _, _ => rfl
  | q :: t, low, r, hl, h => by
    obtain ⟨q1, q2, q3, q4⟩ := rngOk_cons h
    obtain ⟨q5, q6⟩ := q3 _ rfl
    rw [List.length_cons, hrng, rbytes]
    have e : vputS (low - q.2 - 2) ++ (vputS (q.2 - q.1) ++ rbytes q.1 t) ++ r = (([low - q.2 - 2, q.2 - q.1] : List Nat).map vputS).flatten ++ (rbytes q.1 t ++ r) := by simp
    have e2 : vnums 2 ((([low - q.2 - 2, q.2 - q.1] : List Nat).map vputS).flatten ++ (rbytes q.1 t ++ r)) = _ := vnums_put [low - q.2 - 2, q.2 - q.1] (rbytes q.1 t ++ r) (fun n hn => by simp at hn; omega)
    rw [e, e2]
    simp only [Option.bind_some, List.getD_cons_zero, List.getD_cons_succ]
    rw [if_neg (by omega), show low - (low - q.2 - 2) - 2 - (q.2 - q.1) = q.1 by omega, hrng_put t q.1 r (by omega) q4]
    simp only [Option.map_some]
    rw [show low - (low - q.2 - 2) - 2 = q.2 by omega]
theorem hacked_put {k a b c : Nat} {more : ByteArray} {q : Nat × Nat} {t : List (Nat × Nat)} (ha : a < 4611686018427387904) (h1 : t.length ≤ 63) (h2 : q.1 ≤ q.2) (h3 : q.2 < 4611686018427387904) (h4 : rngOk (some q.1) t = true)
    (hk : (k ≠ 3 ∧ b = 0 ∧ c = 0 ∧ more = ⟨#[]⟩) ∨ (k = 3 ∧ b < 4611686018427387904 ∧ c < 4611686018427387904 ∧ more.size = 8 ∧ numF 0 more.data.toList < 4611686018427387904)) (r : List UInt8) :
    hacked k (vputS q.2 ++ (vputS a ++ (vputS t.length ++ (vputS (q.2 - q.1) ++ (rbytes q.1 t ++ ((if k = 3 then vputS b ++ (vputS c ++ vputS (numF 0 more.data.toList)) else []) ++ r)))))) = some ⟨k, a, b, c, false, ⟨#[]⟩, more, q :: t⟩ := by
  have e : ∀ u : List UInt8, vputS q.2 ++ (vputS a ++ (vputS t.length ++ (vputS (q.2 - q.1) ++ u))) = (([q.2, a, t.length, q.2 - q.1] : List Nat).map vputS).flatten ++ u := by intro u; simp
  unfold hacked
  have e2 : ∀ u, vnums 4 ((([q.2, a, t.length, q.2 - q.1] : List Nat).map vputS).flatten ++ u) = _ := fun u => vnums_put [q.2, a, t.length, q.2 - q.1] u (fun n hn => by simp at hn; omega)
  rw [e, e2]
  simp only [Option.bind_some, List.getD_cons_zero, List.getD_cons_succ]
  rw [if_neg (by omega), show q.2 - (q.2 - q.1) = q.1 by omega, hrng_put t q.1 _ (by omega) h4]
  simp only [Option.bind_some]
  rcases hk with ⟨k1, rfl, rfl, rfl⟩ | ⟨rfl, k2, k3, k4, k5⟩
  · rw [if_neg k1]
  · rw [if_pos rfl, if_pos rfl]
    have e3 : vputS b ++ (vputS c ++ vputS (numF 0 more.data.toList)) ++ r = (([b, c, numF 0 more.data.toList] : List Nat).map vputS).flatten ++ r := by simp
    have e4 : vnums 3 ((([b, c, numF 0 more.data.toList] : List Nat).map vputS).flatten ++ r) = _ := vnums_put [b, c, numF 0 more.data.toList] r (fun n hn => by simp at hn; omega)
    rw [e3, e4]
    simp only [Option.map_some, List.getD_cons_zero, List.getD_cons_succ]
    have e1 : be (numF 0 more.data.toList) 8 = more.data.toList := by
      have := be_numF more.data.toList 0
      rw [bytes_len, k4, Nat.zero_mul, Nat.zero_add] at this
      exact this
    rw [e1, eta_bytes]
/-- a shape, in the reference's words -/
theorem fshape_facts {k : Nat} {s : Shp} (h : fshape k = some s) : fnumbers k = some s.n ∧ hkind k = k ∧ ¬ (8 ≤ k ∧ k ≤ 15) ∧ k ≠ 0 ∧ k ≠ 2 ∧ k ≠ 3 ∧ k ≠ 24 ∧ (s.t = true → s.x = 0 ∧ fdata k = true ∧ k ≠ 26 ∧ k ≠ 27) ∧ (0 < s.x → s.t = false ∧ s.x = 8 ∧ (k = 26 ∨ k = 27)) ∧ (s.t = false → s.x = 0 → fdata k = false ∧ k ≠ 26 ∧ k ≠ 27) := by
  unfold fshape at h
  repeat' split at h
  all_goals first
    | (cases h; done)
    | (rename_i hk
       cases h
       rcases hk with rfl | rfl | rfl | rfl | rfl | rfl | rfl <;> decide)
    | (rename_i hk
       cases h
       rcases hk with rfl | rfl | rfl <;> decide)
    | (rename_i hk
       cases h
       rcases hk with rfl | rfl <;> decide)
    | (rename_i hk
       cases h
       subst hk
       decide)
theorem ftake {d r : List UInt8} {n : Nat} (h : d.length = n) : (d ++ r).take n = d := by rw [← h]; simp
theorem fdrop {d r : List UInt8} {n : Nat} (h : d.length = n) : (d ++ r).drop n = r := by rw [← h]; simp

/-- the head guesses what was written -/
theorem phead_put {f : Fr} (h : fmay f = true) (r : List UInt8) (hz : NoZero f r) : phead (fbytes f ++ r) = some f := by
  obtain ⟨ha, hb, hc, hd, hm⟩ := fmay_parts h
  unfold fbytes
  cases hs : fshape f.kind with
  | some s =>
    rw [hs] at hm
    simp only [Bool.and_eq_true, Bool.or_eq_true, decide_eq_true_eq] at hm
    obtain ⟨⟨h1, h2⟩, _⟩ := hm
    obtain ⟨hk, hn, _⟩ := fshape_lt hs
    obtain ⟨f1, f2, f3, f4, f5, f6, f7, f8, f9, f10⟩ := fshape_facts hs
    obtain ⟨c1, c2, c3, c4, c5, c6, c7⟩ := fclear_parts h1
    obtain ⟨t1, t2, t3, t4⟩ := take3 hn c1 c2 c3
    have hnum := vnums_put ([f.a, f.b, f.c].take s.n) (ftail s f ++ r) (fun n hn => by
      have := List.mem_of_mem_take hn
      simp at this
      rcases this with rfl | rfl | rfl <;> assumption)
    rw [t4] at hnum
    have hm0 := size0 c6
    simp only
    unfold phead
    rw [List.append_assoc, vnum_put (by omega)]
    simp only [Option.bind_some]
    rw [if_neg (by omega), if_neg f4, show hmany f.kind = some s.n by unfold hmany; rw [if_neg (by omega), f2, f1]]
    simp only [Option.bind_some]
    unfold fnums
    rw [List.append_assoc, hnum]
    simp only [Option.bind_some]
    rw [t1, t2, t3, f2]
    have ef : (decide (8 ≤ f.kind ∧ f.kind ≤ 15) && decide (f.kind % 2 = 1)) = f.fin := by rw [decide_eq_false f3, c4]; rfl
    rw [ef]
    unfold hended
    simp only
    unfold ftail
    cases ht : s.t
    · simp only [Bool.false_eq_true, if_false]
      by_cases h0 : 0 < s.x
      · obtain ⟨_, g2, g3⟩ := f9 h0
        rw [if_pos h0, if_pos g3]
        have e : f.data.data.toList.length = 8 := by rw [bytes_len]; omega
        rw [if_neg (by simp [e]), ftake e, eta_bytes, ← hm0, ← c7]
      · obtain ⟨g1, g2, g3⟩ := f10 ht (by omega)
        rw [if_neg h0, if_neg (by omega), if_neg f7, if_pos g1]
        have hz : f.data.size = 0 := by
          rcases c5 with h | h | h
          · rw [ht] at h; cases h
          · omega
          · exact h
        rw [← size0 hz]
        have hm2 : f.more = f.data := by rw [hm0, ← size0 hz]
        conv => rhs; rw [show f = ⟨f.kind, f.a, f.b, f.c, f.fin, f.data, f.more, f.list⟩ from rfl]
        rw [hm2, c7]
    · obtain ⟨g1, g2, g3, g4⟩ := f8 ht
      simp only [if_true]
      rw [if_neg (by omega), if_neg f7, g2]
      simp only [Bool.true_eq_false, if_false]
      unfold ftext
      rw [List.append_assoc, vnum_put (by omega)]
      simp only [Option.bind_some]
      have e : f.data.data.toList.length = f.data.size := bytes_len _
      rw [if_neg (by simp [e]), ftake e, eta_bytes, ← hm0, ← c7]
  | none =>
    rw [hs] at hm
    simp only at hm ⊢
    unfold fway
    by_cases h0 : f.kind = 0
    · rw [if_pos h0]
      obtain ⟨a1, a2, e⟩ := own0 h0 hm
      obtain ⟨n, hn⟩ : ∃ n, f.a = n + 1 := ⟨f.a - 1, by omega⟩
      have e1 : List.replicate f.a (0 : UInt8) ++ r = vputS 0 ++ (List.replicate n 0 ++ r) := by rw [hn, List.replicate_succ, vputS0]; rfl
      have e2 : zeros (List.replicate f.a (0 : UInt8) ++ r) = f.a + zeros r := zeros_app _ _
      unfold phead
      rw [e2, e1, vnum_put (by omega)]
      simp only [Option.bind_some]
      rw [if_neg (by omega), if_pos trivial]
      have hmin : min (f.a + zeros r) 16384 = f.a := by
        rcases hz h0 with h1 | h1 <;> omega
      rw [hmin]
      exact congrArg some e.symm
    · rw [if_neg h0]
      by_cases h8 : f.kind = 8
      · rw [if_pos h8]
        obtain ⟨b1, e⟩ := own8 h8 hm
        unfold fstream
        have hk16 : 10 + (if f.b = 0 then 0 else 4) + (if f.fin then 1 else 0) < 16 := by split <;> split <;> omega
        have hk8 : 8 ≤ 10 + (if f.b = 0 then 0 else 4) + (if f.fin then 1 else 0) := by omega
        have hb4 : (10 + (if f.b = 0 then 0 else 4) + (if f.fin then 1 else 0)) < 12 ↔ f.b = 0 := by
          constructor
          · intro h; split at h <;> omega
          · intro h; rw [if_pos h]; split <;> omega
        have hb1 : decide ((10 + (if f.b = 0 then 0 else 4) + (if f.fin then 1 else 0)) % 2 = 1) = f.fin := by cases f.fin <;> split <;> rfl
        obtain ⟨k, hk⟩ : ∃ k, 10 + (if f.b = 0 then 0 else 4) + (if f.fin then 1 else 0) = k := ⟨_, rfl⟩
        rw [hk] at hk16 hk8 hb4 hb1 ⊢
        have ek : hkind k = 8 := if_pos ⟨hk8, by omega⟩
        have ed : (decide (8 ≤ k ∧ k ≤ 15) && decide (k % 2 = 1)) = f.fin := by rw [decide_eq_true ⟨hk8, by omega⟩, hb1]; rfl
        unfold phead
        rw [List.append_assoc, vnum_put (by omega)]
        simp only [Option.bind_some]
        rw [if_neg (by omega), if_neg (by omega), ek, ed]
        have htx : ∀ x y z, hended ⟨8, x, y, z, f.fin, ⟨#[]⟩, ⟨#[]⟩, []⟩ (ftext f.data ++ r) = some ⟨8, x, y, z, f.fin, f.data, ⟨#[]⟩, []⟩ := by
          intro x y z
          unfold hended ftext
          simp only
          rw [if_neg (by omega), if_neg (by omega), if_neg (by decide), List.append_assoc, vnum_put (by omega)]
          simp only [Option.bind_some]
          have e : f.data.data.toList.length = f.data.size := bytes_len _
          rw [if_neg (by simp [e]), ftake e, eta_bytes]
        by_cases hb0 : f.b = 0
        · rw [if_pos hb0, show hmany k = some 1 from if_pos ⟨hk8, hb4.2 hb0⟩]
          simp only [Option.bind_some, List.nil_append]
          have hn := vnums_put [f.a] (ftext f.data ++ r) (fun n hn => by simp at hn; omega)
          simp only [List.length_cons, List.length_nil, List.map_cons, List.map_nil, List.flatten_cons, List.flatten_nil, List.append_nil, Nat.zero_add] at hn
          rw [List.append_assoc, hn]
          simp only [Option.bind_some, List.getD_cons_zero, List.getD_cons_succ, List.getD_nil]
          rw [htx]
          conv => rhs; rw [e]
          rw [hb0]
        · have em : hmany k = some 2 := by
            unfold hmany
            rw [if_neg (by have : ¬ k < 12 := fun h => hb0 (hb4.1 h)
                           omega), ek]
            rfl
          rw [if_neg hb0, em]
          simp only [Option.bind_some]
          have hn := vnums_put [f.a, f.b] (ftext f.data ++ r) (fun n hn => by simp at hn; omega)
          simp only [List.length_cons, List.length_nil, List.map_cons, List.map_nil, List.flatten_cons, List.flatten_nil, List.append_nil, Nat.zero_add, Nat.reduceAdd] at hn
          rw [show vputS f.a ++ (vputS f.b ++ ftext f.data) ++ r = vputS f.a ++ vputS f.b ++ (ftext f.data ++ r) by simp, hn]
          simp only [Option.bind_some, List.getD_cons_zero, List.getD_cons_succ, List.getD_nil]
          rw [htx]
          conv => rhs; rw [e]
      · rw [if_neg h8]
        by_cases h24 : f.kind = 24
        · rw [if_pos h24]
          obtain ⟨b1, b2, b3, b4, e⟩ := own24 h24 hm
          unfold fcid phead
          rw [List.append_assoc, vnum_put (by omega)]
          simp only [Option.bind_some]
          rw [if_neg (by omega), if_neg (by omega), show hmany 24 = some 2 from rfl, show hkind 24 = 24 from rfl]
          simp only [Option.bind_some]
          have hn := vnums_put [f.a, f.b] (UInt8.ofNat f.data.size :: (f.data.data.toList ++ (f.more.data.toList ++ r))) (fun n hn => by simp at hn; omega)
          simp only [List.length_cons, List.length_nil, List.map_cons, List.map_nil, List.flatten_cons, List.flatten_nil, List.append_nil, Nat.zero_add, Nat.reduceAdd] at hn
          rw [show vputS f.a ++ (vputS f.b ++ UInt8.ofNat f.data.size :: (f.data.data.toList ++ f.more.data.toList)) ++ r = vputS f.a ++ vputS f.b ++ UInt8.ofNat f.data.size :: (f.data.data.toList ++ (f.more.data.toList ++ r)) by simp, hn]
          simp only [Option.bind_some, List.getD_cons_zero, List.getD_cons_succ, List.getD_nil]
          unfold hended
          simp only
          rw [if_neg (by omega), if_pos trivial]
          have e1 : (UInt8.ofNat f.data.size).toNat = f.data.size := by rw [UInt8.toNat_ofNat']; omega
          have e2 : f.data.data.toList.length = f.data.size := bytes_len _
          have e3 : f.more.data.toList.length = 16 := by rw [bytes_len, b4]
          rw [e1, if_neg (by simp [e3]; omega), ftake e2, fdrop e2, ftake e3, eta_bytes, eta_bytes]
          conv => rhs; rw [e]
          simp
        · rw [if_neg h24]
          have hk : f.kind = 2 ∨ f.kind = 3 := by have := own_cases hm; omega
          obtain ⟨o1, o2, o3, o4, o5⟩ := ownA hk hm
          obtain ⟨q, t, hl, ht, q1, q2, q3⟩ := rngs_parts o1
          unfold fack
          rw [hl]
          simp only
          unfold phead
          rw [List.append_assoc, vnum_put (by omega)]
          simp only [Option.bind_some]
          rw [if_pos hk]
          simp only [List.append_assoc]
          have := hacked_put (k := f.kind) (a := f.a) (b := f.b) (c := f.c) (more := f.more) ha ht q1 q2 q3 (by
            by_cases h3 : f.kind = 3
            · exact .inr ⟨h3, hb, hc, o5 h3⟩
            · exact .inl ⟨h3, o4 (by omega)⟩) r
          rw [this]
          exact congrArg some (Fr.ext' rfl rfl rfl rfl o2.symm o3.symm rfl hl.symm)
/-- what the reference's Read tells, when its head guessed f -/
theorem fread_head {s : List UInt8} {f : Fr} (h : phead s = some f) : fread s = if fmay f = true ∧ fbytes f <+: s then some (f, s.drop (fbytes f).length) else none := by
  by_cases hc : fmay f = true ∧ fbytes f <+: s
  · rw [if_pos hc]
    obtain ⟨hm, r, rfl⟩ := hc
    rw [List.drop_left]
    refine fread_put hm r (fun h0 => ?_)
    unfold phead at h
    obtain ⟨k, h1, h2⟩ := Option.bind_eq_some_iff.1 h
    by_cases hk : k.1 = 2 ∨ k.1 = 3
    · rw [if_pos hk] at h2
      exfalso
      unfold hacked at h2
      obtain ⟨x, _, h4⟩ := Option.bind_eq_some_iff.1 h2
      split at h4
      · cases h4
      · obtain ⟨y, _, h6⟩ := Option.bind_eq_some_iff.1 h4
        split at h6
        · obtain ⟨z, _, rfl⟩ := Option.map_eq_some_iff.1 h6
          simp only at h0; omega
        · cases h6
          simp only at h0; omega
    · rw [if_neg hk] at h2
      by_cases hk0 : k.1 = 0
      · rw [if_pos hk0] at h2
        have e := Option.some.inj h2
        have ea := congrArg Fr.a e
        simp only at ea
        have eb : fbytes f = List.replicate f.a 0 := by
          unfold fbytes
          rw [shape_none (.inl h0)]
          unfold fway
          rw [if_pos h0]
        rw [eb, zeros_app] at ea
        omega
      · rw [if_neg hk0] at h2
        exfalso
        obtain ⟨m, h3, h4⟩ := Option.bind_eq_some_iff.1 h2
        obtain ⟨x, _, h6⟩ := Option.bind_eq_some_iff.1 h4
        have hh : f.kind = hkind k.1 := by
          unfold hended at h6
          simp only at h6
          split at h6
          · split at h6
            · cases h6
            · cases h6; rfl
          · split at h6
            · split at h6
              · cases h6
              · split at h6
                · cases h6
                · cases h6; rfl
            · split at h6
              · cases h6; rfl
              · obtain ⟨y, _, h8⟩ := Option.bind_eq_some_iff.1 h6
                split at h8
                · cases h8
                · cases h8; rfl
        unfold hkind at hh
        split at hh <;> omega
  · rw [if_neg hc]
    cases hf : fread s with
    | none => rfl
    | some x =>
      exfalso
      obtain ⟨g, r⟩ := x
      obtain ⟨h1, rfl, h3⟩ := fread_some hf
      have := phead_put h1 r h3
      rw [h] at this
      cases this
      exact hc ⟨h1, ⟨r, rfl⟩⟩
theorem fread_nohead {s : List UInt8} (h : phead s = none) : fread s = none := by
  cases hf : fread s with
  | none => rfl
  | some x =>
    obtain ⟨g, r⟩ := x
    obtain ⟨h1, rfl, h3⟩ := fread_some hf
    rw [phead_put h1 r h3] at h
    cases h
end Go.Proofs.YtbjmcnmcodbkdaaDoor

/-
  frames: the document's package: numbers, data, number, bytes, put, text.
-/
namespace Go.Proofs.YtbjmcnmcodbkdaaDoor
open Go.RowKit

/-- how many numbers a kind tells; below 0: none -/
def fnumI (k : Nat) : Int := match fnumbers k with
  | some n => (n : Nat)
  | none => -1
theorem fnumbers_none {k : Nat} (h : ¬ (k = 5 ∨ k = 8 ∨ k = 17 ∨ k = 21 ∨ k = 24 ∨ k = 28 ∨ k = 1 ∨ k = 7 ∨ k = 26 ∨ k = 27 ∨ k = 30 ∨ k = 0 ∨ k = 2 ∨ k = 6 ∨ k = 16 ∨ k = 18 ∨ k = 19 ∨ k = 20 ∨ k = 22 ∨ k = 23 ∨ k = 25 ∨ k = 29 ∨ k = 3 ∨ k = 4)) : fnumbers k = none := by
  unfold fnumbers
  repeat rw [if_neg (by omega)]

set_option maxRecDepth 100000 in
set_option maxHeartbeats 8000000 in
theorem rnumbers_any (w : World) (k : Nat) : Calls Tryd.prog 35 #[.int .u64 k] w fun e w' => e = .returned (.int .i64 (fnumI k)) ∧ w = w' := by
  by_cases h : k = 5 ∨ k = 8 ∨ k = 17 ∨ k = 21 ∨ k = 24 ∨ k = 28 ∨ k = 1 ∨ k = 7 ∨ k = 26 ∨ k = 27 ∨ k = 30 ∨ k = 0 ∨ k = 2 ∨ k = 6 ∨ k = 16 ∨ k = 18 ∨ k = 19 ∨ k = 20 ∨ k = 22 ∨ k = 23 ∨ k = 25 ∨ k = 29 ∨ k = 3 ∨ k = 4
  · rcases h with rfl | rfl | rfl | rfl | rfl | rfl | rfl | rfl | rfl | rfl | rfl | rfl | rfl | rfl | rfl | rfl | rfl | rfl | rfl | rfl | rfl | rfl | rfl | rfl
    all_goals
      go_enter Tryd.func35, Tryd.ntmps35
      go_wp2_with fail
      go_ret
      exact ⟨rfl, rfl⟩
  · have HN := hide (fnumbers_none h)
    have b5 : ((k : Int) == 5) = false := by simp; omega
    have b8 : ((k : Int) == 8) = false := by simp; omega
    have b17 : ((k : Int) == 17) = false := by simp; omega
    have b21 : ((k : Int) == 21) = false := by simp; omega
    have b24 : ((k : Int) == 24) = false := by simp; omega
    have b28 : ((k : Int) == 28) = false := by simp; omega
    have b1 : ((k : Int) == 1) = false := by simp; omega
    have b7 : ((k : Int) == 7) = false := by simp; omega
    have b26 : ((k : Int) == 26) = false := by simp; omega
    have b27 : ((k : Int) == 27) = false := by simp; omega
    have b30 : ((k : Int) == 30) = false := by simp; omega
    have b0 : ((k : Int) == 0) = false := by simp; omega
    have b2 : ((k : Int) == 2) = false := by simp; omega
    have b6 : ((k : Int) == 6) = false := by simp; omega
    have b16 : ((k : Int) == 16) = false := by simp; omega
    have b18 : ((k : Int) == 18) = false := by simp; omega
    have b19 : ((k : Int) == 19) = false := by simp; omega
    have b20 : ((k : Int) == 20) = false := by simp; omega
    have b22 : ((k : Int) == 22) = false := by simp; omega
    have b23 : ((k : Int) == 23) = false := by simp; omega
    have b25 : ((k : Int) == 25) = false := by simp; omega
    have b29 : ((k : Int) == 29) = false := by simp; omega
    have b3 : ((k : Int) == 3) = false := by simp; omega
    have b4 : ((k : Int) == 4) = false := by simp; omega
    clear h
    go_enter Tryd.func35, Tryd.ntmps35
    go_wp2_with fail
    go_ret
    exact ⟨by unfold fnumI; rw [HN.out]; rfl, rfl⟩

theorem fdata_none {k : Nat} (h : ¬ (k = 6 ∨ k = 7 ∨ k = 8 ∨ k = 24 ∨ k = 26 ∨ k = 27 ∨ k = 28 ∨ k = 29)) : fdata k = false := by
  unfold fdata
  simp only [Bool.or_eq_false_iff, decide_eq_false_iff_not]
  omega
set_option maxRecDepth 100000 in
set_option maxHeartbeats 8000000 in
theorem rdata_any (w : World) (k : Nat) : Calls Tryd.prog 36 #[.int .u64 k] w fun e w' => e = .returned (.bool (fdata k)) ∧ w = w' := by
  by_cases h : k = 6 ∨ k = 7 ∨ k = 8 ∨ k = 24 ∨ k = 26 ∨ k = 27 ∨ k = 28 ∨ k = 29
  · rcases h with rfl | rfl | rfl | rfl | rfl | rfl | rfl | rfl
    all_goals
      go_enter Tryd.func36, Tryd.ntmps36
      go_wp2_with fail
      go_ret
      exact ⟨rfl, rfl⟩
  · have HN := hide (fdata_none h)
    have b6 : ((k : Int) == 6) = false := by simp; omega
    have c6 : (k == 6) = false := by simp; omega
    have b7 : ((k : Int) == 7) = false := by simp; omega
    have c7 : (k == 7) = false := by simp; omega
    have b8 : ((k : Int) == 8) = false := by simp; omega
    have c8 : (k == 8) = false := by simp; omega
    have b24 : ((k : Int) == 24) = false := by simp; omega
    have c24 : (k == 24) = false := by simp; omega
    have b26 : ((k : Int) == 26) = false := by simp; omega
    have c26 : (k == 26) = false := by simp; omega
    have b27 : ((k : Int) == 27) = false := by simp; omega
    have c27 : (k == 27) = false := by simp; omega
    have b28 : ((k : Int) == 28) = false := by simp; omega
    have c28 : (k == 28) = false := by simp; omega
    have b29 : ((k : Int) == 29) = false := by simp; omega
    have c29 : (k == 29) = false := by simp; omega
    clear h
    go_enter Tryd.func36, Tryd.ntmps36
    go_wp2_with fail
    go_ret
    exact ⟨by rw [HN.out]; rfl, rfl⟩

set_option maxRecDepth 100000 in
set_option maxHeartbeats 2000000 in
theorem rnumber_any (w : World) (Y : ByteArray) (hY : Y.size ≤ 8) :
    Calls Tryd.prog 33 #[.string Y] w fun e w' => e = .returned (.int .u64 (numF 0 Y.data.toList : Nat)) ∧ w = w' := by
  obtain ⟨D, hD⟩ : ∃ D, Y.data.toList = D := ⟨_, rfl⟩
  have hDl : D.length = Y.size := by rw [← hD]; exact Array.length_toList
  have hat : ∀ j (h : j < D.length) (h2 : j < Y.size), Y[j]'h2 = D[j] := fun j h h2 => getElem_list Y j _ _ (by rw [← List.getElem?_eq_getElem h, ← hD])
  have HAt := hide hat
  have HDl := hide hDl
  rw [hD]
  clear hat hD hDl
  go_enter Tryd.func33, Tryd.ntmps33
  go_wp2_with fail
  go_loopw [3, 4] (fun n i wr => ∃ j : Nat, j ≤ Y.size ∧ i = .int .i64 (j : Int) ∧ n = .int .u64 (numF 0 (D.take j) : Nat) ∧ wr = w) (fun _ i _ => Y.size - (intOf i).toNat)
  case atStart => exact ⟨0, by omega, rfl, rfl, by trivial⟩
  case round =>
    obtain ⟨j, hj, rfl, rfl, rfl⟩ := hrel
    by_cases h : j < Y.size
    · have hjl : j < D.length := by rw [HDl.out]; exact h
      have c0 := HAt.out j hjl h
      obtain ⟨d, hd⟩ : ∃ d, D[j]'hjl = d := ⟨_, rfl⟩
      rw [hd] at c0
      have hnext : numF 0 (D.take (j + 1)) = numF 0 (D.take j) * 256 + d.toNat := by
        rw [← List.take_append_getElem hjl, hd]
        simp [numF]
      have hbound : numF 0 (D.take j) < 256 ^ j := by
        have h1 := numF_lt (D.take j)
        have h2 : (D.take j).length = j := by rw [List.length_take]; omega
        rw [h2] at h1
        exact h1
      have hp : (256 : Nat) ^ j ≤ 256 ^ 7 := Nat.pow_le_pow_right (by omega) (by omega)
      obtain ⟨N, hN⟩ : ∃ N, numF 0 (D.take j) = N := ⟨_, rfl⟩
      rw [hN] at hnext hbound ⊢
      have hNb : N < 72057594037927936 := by
        have : (256 : Nat) ^ 7 = 72057594037927936 := rfl
        omega
      have hd256 := d.toNat_lt
      have HNext := hide hnext
      clear hnext hbound hp hN hd
      go_wp2_with fail
      go_roundw
      case rel => exact ⟨j + 1, by omega, by go_num, by rw [HNext.out]; go_num, by trivial⟩
      case measure => simp [intOf]; omega
    · have hjm : j = Y.size := by omega
      subst hjm
      rw [List.take_of_length_le (by rw [HDl.out]; exact Nat.le_refl _)]
      obtain ⟨N, hN⟩ : ∃ N, numF 0 D = N := ⟨_, rfl⟩
      rw [hN]
      have HN := hide hN
      clear hN
      go_wp2_with fail
      go_ret
      exact ⟨by rw [HN.out]; rfl, rfl⟩

set_option maxRecDepth 100000 in
set_option maxHeartbeats 2000000 in
theorem rbytes8_any (w : World) (n : Nat) (hn : n ≤ 18446744073709551615) :
    Calls Tryd.prog 70 #[.int .u64 n] w fun e w' => e = .returned (str (be n 8)) ∧ Mod [] w w' := by
  have hmk := fun w => (Go.run_make_row' (P := Tryd.prog) 55 5 (.int .u8 0) 1 Tryd.underlying55 u8info rfl .i64 .i64 8 (by omega) (by omega) w).trans (by rw [madeCells_one])
  push_cast at hmk
  go_enter Tryd.func70, Tryd.ntmps70
  go_wp2_with fail
  have hb0 : Blk (w.alloc (.cells (Array.replicate 8 (.int .u8 0)) 5)) w.heap.size 5 (hcells n 8 0) := by rw [hcells_zero]; exact Blk.new w _ _
  have hm0 : Mod [] w (w.alloc (.cells (Array.replicate 8 (.int .u8 0)) 5)) := (Mod.refl _ _).alloc _
  go_loopw [0, 4] (fun x i wr => ∃ j : Nat, j ≤ 8 ∧ i = .int .i64 ((8 : Nat) - 1 - (j : Int)) ∧ x = .int .u64 ((n / 256 ^ j : Nat) : Int) ∧ Blk wr w.heap.size 5 (hcells n 8 j) ∧ Mod [] w wr) (fun _ i _ => (intOf i + 1).toNat)
  case atStart => exact ⟨0, by omega, by go_num, by simp, hb0, hm0⟩
  case round =>
    obtain ⟨j, hj, rfl, rfl, hb, hm⟩ := hrel
    clear hb0 hm0
    have c0 := hb.cell (8 - 1 - j)
    have hlt := hb.lt
    have hfz := hb.frozen (8 - 1 - j)
    by_cases h : j < 8
    · have hc : (hcells n 8 j)[8 - 1 - j]? = some ((hcells n 8 j)[8 - 1 - j]'(by rw [hcells_size]; omega)) := Array.getElem?_eq_getElem _
      rw [hc] at c0
      replace c0 : ∃ v, wr.cell? ⟨w.heap.size, 8 - 1 - j, none⟩ = some v := ⟨_, c0⟩
      obtain ⟨v0, c0⟩ := c0
      have hset := hb.set_ (8 - 1 - j) (.int .u8 ((n / 256 ^ j % 256 : Nat) : Int))
      rw [hcells_set n 8 j h] at hset
      have hpw : n / 256 ^ (j + 1) = n / 256 ^ j / 256 := by rw [Nat.pow_succ, Nat.div_div_eq_div_mul]
      obtain ⟨N, hN⟩ : ∃ N, n / 256 ^ j = N := ⟨_, rfl⟩
      have hNn : N ≤ 18446744073709551615 := by rw [← hN]; exact Nat.le_trans (Nat.div_le_self _ _) hn
      rw [hN] at hset hpw ⊢
      have HPw := hide hpw
      have HSet := hide (show Blk (wr.setCell ⟨w.heap.size, 8 - 1 - j, none⟩ (.int .u8 ((N : Int) % 256))) w.heap.size 5 (hcells n 8 (j + 1)) by
        rw [show ((N : Int) % 256) = ((N % 256 : Nat) : Int) by omega]; exact hset)
      obtain ⟨q, hq⟩ : ∃ q, 8 - 1 - j = q := ⟨_, rfl⟩
      rw [hq] at c0 hfz HSet
      have hkq : ((8 : Nat) - 1 - (j : Int)) = q := by omega
      rw [hkq]
      have hq1 : (q : Int) - 1 = (8 : Nat) - 1 - ((j + 1 : Nat) : Int) := by omega
      have Hq1 := hide hq1
      have hqk : (q : Int) < 8 := by omega
      have hqn : q < 8 := by omega
      clear hN hpw hset hb hc hq hkq hq1
      go_wp2_with fail
      go_roundw
      case rel => exact ⟨j + 1, by omega, by rw [Hq1.out], by rw [HPw.out]; congr 1, HSet.out, hm.setCell (.inr (Nat.le_refl _)) _⟩
      case measure => simp [intOf]
    · have : j = 8 := by omega
      subst this
      rw [hcells_all] at hb
      have hcv := conv_bytes _ _ _ [] 8 (by rw [List.append_nil]; exact hb)
      rw [be_length] at hcv
      clear hb c0 h
      go_wp2_with fail
      go_ret
      exact ⟨rfl, hm⟩

theorem rfput_any (w : World) (n : Nat) : Calls Tryd.prog 32 #[.int .u64 n] w fun e w' => e = .returned (str (vputS n)) ∧ Mod [] w w' := by
  go_enter Tryd.func32, Tryd.ntmps32
  go_wp2_with fail
  refine (rput_any w n).mono ?_
  rintro e w1 ⟨rfl, m1⟩
  go_wp2_with fail
  go_ret
  exact ⟨rfl, m1⟩

theorem rftext_any (w : World) (S : ByteArray) (hS : S.size ≤ 4611686018427387904) : Calls Tryd.prog 34 #[.string S] w fun e w' => e = .returned (str (vputS S.size ++ S.data.toList)) ∧ Mod [] w w' := by
  obtain ⟨A1, hA⟩ : ∃ A : ByteArray, A = ⟨(vputS S.size).toArray⟩ := ⟨_, rfl⟩
  have HA : Hid (str (vputS S.size) = .string A1) := hide (by rw [hA]; rfl)
  have hAs : A1.size ≤ 8 := by rw [hA]; exact vputS_le _
  have hq : A1.size + S.size ≤ 9223372036854775807 := by omega
  have HR : Hid (str (vputS S.size ++ S.data.toList) = .string (A1 ++ S)) := hide (by
    unfold str
    rw [← eta_bytes (A1 ++ S), hA]
    simp)
  have P1 := hide (fun w => rfput_any w S.size)
  clear hA
  go_enter Tryd.func34, Tryd.ntmps34
  go_wp2_with fail
  refine (P1.out _).mono ?_
  rintro e w1 ⟨rfl, m1⟩
  rw [HA.out]
  go_wp2_with fail
  go_ret
  exact ⟨by rw [HR.out]; rfl, m1⟩
end Go.Proofs.YtbjmcnmcodbkdaaDoor

/-
  frames: the document's package: ranges, Same.
-/
namespace Go.Proofs.YtbjmcnmcodbkdaaDoor
open Go.RowKit

set_option maxRecDepth 100000 in
set_option maxHeartbeats 4000000 in
theorem rfranges_any (w : World) (A : Option Addr) (n c : Nat) (l : List (Nat × Nat)) (h : Rngs w A n l) (v : Bool) (hv : rngs l = v) :
    Calls Tryd.prog 41 #[.slice A n c] w (RPost w v) := by
  have hn1 := h.2.1
  have hln := h.1
  have hv2 : v = (rngOk none l && (decide (1 ≤ n) && decide (n ≤ 64))) := by rw [← hv, ← hln]; rfl
  have HV := hide hv2
  have HL := hide h
  have HLn := hide hln
  clear hv hv2 h hln
  go_enter Tryd.func41, Tryd.ntmps41
  go_wp2_with fail
  go_loopw [3] (fun iv wr => ∃ j : Nat, j ≤ n ∧ iv = .int .i64 (j : Int) ∧ Hid (rngOk none l = rngOk (prevOf l j) (l.drop j)) ∧ Hid (∀ p, prevOf l j = some p → p < 4611686018427387904) ∧ Mod [] w wr) (fun iv _ => n - (intOf iv).toNat)
  case atStart => exact ⟨0, by omega, rfl, hide rfl, hide (fun p hp => by cases hp), Mod.refl _ _⟩
  case round =>
    obtain ⟨j, hj, rfl, hC, hPb, hm⟩ := hrel
    have HM := hide hm
    by_cases h : j < n
    · obtain ⟨g, o, hjl, rfl, hgl, c0, c1⟩ := (HL.out.new hm).at_ h
      have hstep := rngOk_step hjl
      rw [← hC.out] at hstep
      have hprev : 0 < j → ∃ p, prevOf l j = some p ∧ wr.cell? ⟨g, o + (j - 1) * 2, none⟩ = some (.int .u64 (p : Nat)) := fun h0 => by
        obtain ⟨g', o', hkl, he, _, d0, _⟩ := (HL.out.new hm).at_ (i := j - 1) (by omega)
        cases he
        refine ⟨l[j - 1].1, ?_, d0⟩
        obtain ⟨k, rfl⟩ : ∃ k, j = k + 1 := ⟨j - 1, by omega⟩
        unfold prevOf
        simp only [Nat.add_sub_cancel]
        rw [List.getElem?_eq_getElem (by omega)]; rfl
      have hnp : prevOf l (j + 1) = some l[j].1 := by
        unfold prevOf
        simp only
        rw [List.getElem?_eq_getElem hjl]; rfl
      obtain ⟨lo, hlo⟩ : ∃ x, l[j].1 = x := ⟨_, rfl⟩
      obtain ⟨hi, hhi⟩ : ∃ x, l[j].2 = x := ⟨_, rfl⟩
      rw [hlo] at c0 hnp
      rw [hhi] at c1
      have hcond : condOk (prevOf l j) l[j] = (decide (lo ≤ hi) && decide (hi < 4611686018427387904) && (match prevOf l j with | none => true | some p => decide (2 ≤ p) && decide (hi ≤ p - 2))) := by
        unfold condOk; rw [hlo, hhi]; cases prevOf l j <;> rfl
      rw [hcond] at hstep
      have hvf : ∀ X : Bool, X = false → rngOk none l = (X && rngOk (prevOf l (j + 1)) (l.drop (j + 1))) → v = false := fun X hX he => by
        rw [HV.out, he, hX]; rfl
      have HVf := hide hvf
      have HPrev := hide hprev
      have HStep := hide hstep
      have HNp := hide hnp
      clear hC hprev hstep hcond hlo hhi hvf hjl hnp hm
      by_cases h1 : hi < lo
      · have hf := HVf.out _ (by rw [decide_eq_false (show ¬ lo ≤ hi by omega)]; rfl) HStep.out
        have HF := hide hf
        have d1 : decide ((hi : Int) < lo) = true := decide_eq_true (by omega)
        have d2 : decide (hi < lo) = true := decide_eq_true h1
        clear hf HVf HStep HPrev
        go_wp2_with fail
        go_quiet (fail)
        go_wp2_with fail
        go_ret
        exact ⟨by rw [HF.out]; rfl, HM.out.drewN _⟩
      have d1 : decide ((hi : Int) < lo) = false := decide_eq_false (by omega)
      have d2 : decide (hi < lo) = false := decide_eq_false h1
      by_cases h2 : 4611686018427387903 < hi
      · have hf := HVf.out _ (by rw [decide_eq_false (show ¬ hi < 4611686018427387904 by omega)]; simp) HStep.out
        have HF := hide hf
        have d3 : decide ((4611686018427387904 : Int) ≤ hi) = true := decide_eq_true (by omega)
        have d4 : decide (4611686018427387904 ≤ hi) = true := decide_eq_true h2
        clear hf HVf HStep HPrev
        go_wp2_with fail
        go_quiet (fail)
        go_wp2_with fail
        go_ret
        exact ⟨by rw [HF.out]; rfl, HM.out.drewN _⟩
      have d3 : decide ((4611686018427387904 : Int) ≤ hi) = false := decide_eq_false (by omega)
      have d4 : decide (4611686018427387904 ≤ hi) = false := decide_eq_false h2
      by_cases h0 : 0 < j
      · obtain ⟨p, hp, cp⟩ := HPrev.out h0
        rw [hp] at HStep
        have e1 : (j : Int) - 1 = ((j - 1 : Nat) : Int) := by omega
        have hw1 : IntKind.i64.wrap ((j : Int) - 1) = ((j - 1 : Nat) : Int) := by rw [e1]; exact IntWalk.i64_in _ (by omega)
        have h0d : decide ((0 : Int) < j) = true := decide_eq_true (by omega)
        have h0n : decide (0 < j) = true := decide_eq_true h0
        have hjm : ((j - 1 : Nat) : Int) < n := by omega
        have HPp := hide hp
        clear hp
        by_cases h3 : p < 2
        · have hf := HVf.out _ (by simp only; rw [decide_eq_false (show ¬ 2 ≤ p by omega)]; simp) HStep.out
          have HF := hide hf
          have d5 : decide ((p : Int) < 2) = true := decide_eq_true (by omega)
          have d6 : decide (p < 2) = true := decide_eq_true h3
          clear hf HVf HStep HPrev
          go_wp2_with fail
          go_quiet (fail)
          go_wp2_with fail
          go_quiet (fail)
          go_wp2_with fail
          go_ret
          exact ⟨by rw [HF.out]; rfl, by first | exact (HM.out.drewN _).drewN _ | exact HM.out.drewN _⟩
        · have d5 : decide ((p : Int) < 2) = false := decide_eq_false (by omega)
          have d6 : decide (p < 2) = false := decide_eq_false h3
          obtain ⟨p2, hp2⟩ : ∃ p2, p = p2 + 2 := ⟨p - 2, by omega⟩
          have HP2 := hide hp2
          have hsub : (p : Int) - 2 = (p2 : Int) := by omega
          have hp64 : p < 4611686018427387904 := hPb.out p HPp.out
          by_cases h4 : p2 < hi
          · have hf := HVf.out _ (by simp only; rw [decide_eq_false (show ¬ hi ≤ p - 2 by omega)]; simp) HStep.out
            have HF := hide hf
            have d7 : decide ((p2 : Int) < hi) = true := decide_eq_true (by omega)
            have d8 : decide (p2 < hi) = true := decide_eq_true h4
            have hw2 : IntKind.u64.wrap ((p : Int) - 2) = (p2 : Int) := by rw [hsub]; exact IntWalk.u64_in _ (by omega)
            clear hf HVf HStep HPrev hp2
            go_wp2_with fail
            go_quiet (fail)
            go_wp2_with fail
            go_quiet (fail)
            go_wp2_with fail
            go_ret
            exact ⟨by rw [HF.out]; rfl, by first | exact (HM.out.drewN _).drewN _ | exact HM.out.drewN _⟩
          · have d7 : decide ((p2 : Int) < hi) = false := decide_eq_false (by omega)
            have d8 : decide (p2 < hi) = false := decide_eq_false h4
            have hw2 : IntKind.u64.wrap ((p : Int) - 2) = (p2 : Int) := by rw [hsub]; exact IntWalk.u64_in _ (by omega)
            have hnx : rngOk none l = rngOk (prevOf l (j + 1)) (l.drop (j + 1)) := by
              rw [HStep.out]
              simp only
              rw [decide_eq_true (show lo ≤ hi by omega), decide_eq_true (show hi < 4611686018427387904 by omega), decide_eq_true (show 2 ≤ p by omega), decide_eq_true (show hi ≤ p - 2 by omega)]
              simp
            have HNx := hide hnx
            have HPn : Hid (∀ p, prevOf l (j + 1) = some p → p < 4611686018427387904) := hide (fun p hp => by rw [HNp.out] at hp; cases hp; omega)
            clear HVf HStep HPrev hp2 hnx hPb
            go_wp2_with fail
            go_quiet (fail)
            go_wp2_with fail
            go_quiet (fail)
            go_wp2_with fail
            go_roundw
            case rel => exact ⟨j + 1, by omega, by go_num, HNx, HPn, by first | exact (HM.out.drewN _).drewN _ | exact HM.out.drewN _⟩
            case measure => simp [intOf]; omega
      · have hj0 : j = 0 := by omega
        subst hj0
        have hnx : rngOk none l = rngOk (prevOf l 1) (l.drop 1) := by
          rw [HStep.out]
          have : prevOf l 0 = none := rfl
          rw [this]
          simp only
          rw [decide_eq_true (show lo ≤ hi by omega), decide_eq_true (show hi < 4611686018427387904 by omega)]
          simp
        have HNx := hide hnx
        have HPn : Hid (∀ p, prevOf l 1 = some p → p < 4611686018427387904) := hide (fun p hp => by rw [HNp.out] at hp; cases hp; omega)
        simp only [Nat.zero_mul, Nat.add_zero] at c0 c1
        clear HVf HStep HPrev hnx hPb
        go_wp2_with fail
        go_quiet (fail)
        go_wp2_with fail
        go_quiet (fail)
        go_wp2_with fail
        go_roundw
        case rel => exact ⟨1, by omega, by go_num, HNx, HPn, by first | exact (HM.out.drewN _).drewN _ | exact HM.out.drewN _⟩
        case measure => simp [intOf]; omega
    · have hjn : j = n := by omega
      subst hjn
      have hv3 : v = (decide (1 ≤ j) && decide (j ≤ 64)) := by
        rw [HV.out, hC.out, List.drop_of_length_le (by rw [HLn.out]; exact Nat.le_refl _)]
        rfl
      have HV3 := hide hv3
      clear hv3 hC hPb hm
      by_cases h1 : 0 < j
      · have d1 : decide ((1 : Int) ≤ j) = true := decide_eq_true (by omega)
        have d2 : decide (1 ≤ j) = true := decide_eq_true h1
        have d3 : decide ((0 : Int) < j) = true := decide_eq_true (by omega)
        have d4 : decide (0 < j) = true := decide_eq_true h1
        go_wp2_with fail
        go_ret
        refine ⟨rbool ?_, HM.out⟩
        rw [HV3.out, decide_eq_true (show 1 ≤ j by omega), Bool.true_and]
        exact decide_eq_decide.2 (by omega)
      · have d1 : decide ((1 : Int) ≤ j) = false := decide_eq_false (by omega)
        have d2 : decide (1 ≤ j) = false := decide_eq_false h1
        have d3 : decide ((0 : Int) < j) = false := decide_eq_false (by omega)
        have d4 : decide (0 < j) = false := decide_eq_false h1
        go_wp2_with fail
        go_ret
        refine ⟨rbool ?_, HM.out⟩
        rw [HV3.out, decide_eq_false (show ¬ 1 ≤ j by omega)]
        rfl

/-- the ranges are the same as far as j -/
def RSame (l k : List (Nat × Nat)) (j : Nat) : Prop := ∀ i (h1 : i < l.length) (h2 : i < k.length), i < j → l[i] = k[i]
set_option maxRecDepth 100000 in
set_option maxHeartbeats 8000000 in
theorem rsame_any (w : World) (A B : Option Addr) (n m c d : Nat) (f g : Fr) (hf : Rngs w A n f.list) (hg : Rngs w B m g.list) (v : Bool) (hv : fsame f g = v) :
    Calls Tryd.prog 14 #[fval A n c f, fval B m d g] w (RPost w v) := by
  have hn1 := hf.2.1
  have hm1 := hg.2.1
  have hbx1 := (Blk.new w 26 (fcs A n c f)).alloc (.cells (fcs B m d g) 26)
  have hbx2 : Blk ((w.alloc (.cells (fcs A n c f) 26)).alloc (.cells (fcs B m d g) 26)) (w.heap.size + 1) 26 (fcs B m d g) := by
    have := Blk.new (w.alloc (.cells (fcs A n c f) 26)) 26 (fcs B m d g)
    rw [World.size_alloc] at this
    exact this
  have hmo : Mod [] w ((w.alloc (.cells (fcs A n c f) 26)).alloc (.cells (fcs B m d g) 26)) := ((Mod.refl _ _).alloc _).alloc _
  have HB1 := hide hbx1
  have HB2 := hide hbx2
  have HMo := hide hmo
  have HF := hide (hf.new hmo)
  have HG := hide (hg.new hmo)
  have hsz : (w.alloc (.cells (fcs A n c f) 26)).heap.size = w.heap.size + 1 := World.size_alloc _ _
  clear hbx1 hbx2 hmo
  obtain ⟨k1, a1, b1, c1, i1, d1, m1, l1⟩ := f
  obtain ⟨k2, a2, b2, c2, i2, d2, m2, l2⟩ := g
  unfold fval fcs at *
  simp only at hf hg HF HG ⊢
  have HLn := hide (show l1.length = n from hf.1)
  have HLm := hide (show l2.length = m from hg.1)
  have HV := hide hv
  clear hv hf hg
  by_cases hnm : n = m
  rotate_left
  · have hvf : Hid (v = false) := hide (by rw [← HV.out]; exact fsame_ne (fun e => hnm (by rw [← HLn.out, ← HLm.out]; exact congrArg (fun f => f.list.length) e)))
    have q1 : ((n : Int) != (m : Int)) = true := by simp; omega
    have q2 : (n != m) = true := by simpa using hnm
    clear hnm HV HF HG HLn HLm
    go_enter Tryd.func14, Tryd.ntmps14
    go_wp2_with fail
    go_ret
    exact ⟨by rw [hvf.out]; rfl, HMo.out⟩
  subst hnm
  have hne : ∀ j (h1 : j < l1.length) (h2 : j < l2.length), l1[j] ≠ l2[j] → v = false := fun j h1 h2 hne => by
    rw [← HV.out]
    refine fsame_ne (fun e => hne ?_)
    have e2 : l1 = l2 := congrArg Fr.list e
    subst e2; rfl
  have hfin : RSame l1 l2 n → v = (decide (k1 = k2) && decide (a1 = a2) && decide (b1 = b2) && decide (c1 = c2) && decide (i1 = i2) && decide (d1 = d2) && decide (m1 = m2)) := fun h => by
    have e2 : l1 = l2 := by
      apply List.ext_getElem
      · rw [HLn.out, HLm.out]
      · intro i h1 h2
        exact h i h1 h2 (by have := HLn.out; omega)
    rw [← HV.out]
    unfold fsame
    simp only
    rw [decide_eq_true e2, Bool.and_true]
  have HNe := hide hne
  have HFin := hide hfin
  clear hne hfin HV
  go_enter Tryd.func14, Tryd.ntmps14
  go_wp2_with fail
  obtain ⟨W1, hW1⟩ : ∃ W1, (w.alloc (.cells #[.int .u64 (k1 : Nat), .int .u64 (a1 : Nat), .int .u64 (b1 : Nat), .int .u64 (c1 : Nat), .bool i1, .string d1, .string m1, .slice A n c] 26)).alloc (.cells #[.int .u64 (k2 : Nat), .int .u64 (a2 : Nat), .int .u64 (b2 : Nat), .int .u64 (c2 : Nat), .bool i2, .string d2, .string m2, .slice B n d] 26) = W1 := ⟨_, rfl⟩
  rw [hW1] at HB1 HB2 HMo HF HG ⊢
  clear hW1 hsz
  go_loopw [5] (fun iv wr => ∃ j : Nat, j ≤ n ∧ iv = .int .i64 (j : Int) ∧ Hid (RSame l1 l2 j) ∧ ∃ q, wr = W1.drewN q) (fun iv _ => n - (intOf iv).toNat)
  case atStart => exact ⟨0, by omega, rfl, hide (fun i h1 h2 h3 => by omega), 0, rfl⟩
  case round =>
    obtain ⟨j, hj, rfl, hC, q, rfl⟩ := hrel
    have hmq : Mod [] W1 (W1.drewN q) := (Mod.refl _ _).drewN _
    have B1 := hmq.blk HB1.out (by simp)
    have B2 := hmq.blk HB2.out (by simp)
    have hl1 := HB1.out.lt
    have hl2 := HB2.out.lt
    have x0 := HB1.out.cell 0
    have x1 := HB1.out.cell 1
    have x2 := HB1.out.cell 2
    have x3 := HB1.out.cell 3
    have x4 := HB1.out.cell 4
    have x5 := HB1.out.cell 5
    have x6 := HB1.out.cell 6
    have x7 := HB1.out.cell 7
    have y0 := HB2.out.cell 0
    have y1 := HB2.out.cell 1
    have y2 := HB2.out.cell 2
    have y3 := HB2.out.cell 3
    have y4 := HB2.out.cell 4
    have y5 := HB2.out.cell 5
    have y6 := HB2.out.cell 6
    have y7 := HB2.out.cell 7
    clear B1 B2 hmq
    by_cases h : j < n
    · obtain ⟨g, o, hjl, rfl, hgl, c0, c1⟩ := HF.out.at_ h
      obtain ⟨g', o', hjk, rfl, hgl', d0, d1⟩ := HG.out.at_ h
      have hbad := HNe.out j hjl hjk
      have hnext : l1[j] = l2[j] → RSame l1 l2 (j + 1) := fun he i h1 h2 h3 => by
        by_cases e : i = j
        · subst e; exact he
        · exact hC.out i h1 h2 (by omega)
      obtain ⟨x, hx⟩ : ∃ x, l1[j] = x := ⟨_, rfl⟩
      obtain ⟨y, hy⟩ : ∃ x, l2[j] = x := ⟨_, rfl⟩
      rw [hx] at c0 c1 hbad hnext
      rw [hy] at d0 d1 hbad hnext
      obtain ⟨u1, u2⟩ := x
      obtain ⟨v1, v2⟩ := y
      simp only at c0 c1 d0 d1
      have HBad := hide hbad
      have HNext := hide hnext
      clear hx hy hbad hnext hC hjl hjk
      by_cases h1 : u1 = v1
      · subst h1
        by_cases h2 : u2 = v2
        · subst h2
          have HN := hide (HNext.out rfl)
          clear HBad HNext
          go_wp2_with fail
          go_quiet (fail)
          go_wp2_with fail
          go_roundw
          case rel => exact ⟨j + 1, by omega, by go_num, HN, by first | exact ⟨_, rfl⟩ | exact ⟨_, World.drewN_drewN _ _ _⟩⟩
          case measure => simp [intOf]; omega
        · have hvf := HBad.out (fun e => h2 (by cases e; rfl))
          have b1 : ((u2 : Int) == (v2 : Int)) = false := by simp; omega
          have b2 : (u2 == v2) = false := by simpa using h2
          have b3 : ((u2 : Int) != (v2 : Int)) = true := by simp; omega
          have b4 : (u2 != v2) = true := by simpa using h2
          have HV := hide hvf
          clear HBad HNext hvf
          go_wp2_with fail
          go_quiet (fail)
          go_wp2_with fail
          go_ret
          exact ⟨by rw [HV.out]; rfl, by first | exact HMo.out.drewN _ | exact (HMo.out.drewN _).drewN _⟩
      · have hvf := HBad.out (fun e => h1 (by cases e; rfl))
        have b1 : ((u1 : Int) == (v1 : Int)) = false := by simp; omega
        have b2 : (u1 == v1) = false := by simpa using h1
        have HV := hide hvf
        clear HBad HNext hvf
        go_wp2_with fail
        go_quiet (fail)
        go_wp2_with fail
        go_ret
        exact ⟨by rw [HV.out]; rfl, by first | exact HMo.out.drewN _ | exact (HMo.out.drewN _).drewN _⟩
    · have hjn : j = n := by omega
      subst hjn
      have HVv := hide (HFin.out hC.out)
      clear hC h HF HG HFin
      by_cases h0 : k1 = k2
      rotate_left
      · have q1 : ((k1 : Int) == (k2 : Int)) = false := by simp; omega
        have q2 : (k1 == k2) = false := by simpa using h0
        have hvf : Hid (v = false) := hide (by rw [HVv.out]; simp [h0])
        clear h0 HVv
        go_wp2_with fail
        go_ret
        exact ⟨by rw [hvf.out]; rfl, HMo.out.drewN _⟩
      subst h0
      by_cases h1 : a1 = a2
      rotate_left
      · have q1 : ((a1 : Int) == (a2 : Int)) = false := by simp; omega
        have q2 : (a1 == a2) = false := by simpa using h1
        have hvf : Hid (v = false) := hide (by rw [HVv.out]; simp [h1])
        clear h1 HVv
        go_wp2_with fail
        go_ret
        exact ⟨by rw [hvf.out]; rfl, HMo.out.drewN _⟩
      subst h1
      by_cases h2 : b1 = b2
      rotate_left
      · have q1 : ((b1 : Int) == (b2 : Int)) = false := by simp; omega
        have q2 : (b1 == b2) = false := by simpa using h2
        have hvf : Hid (v = false) := hide (by rw [HVv.out]; simp [h2])
        clear h2 HVv
        go_wp2_with fail
        go_ret
        exact ⟨by rw [hvf.out]; rfl, HMo.out.drewN _⟩
      subst h2
      by_cases h3 : c1 = c2
      rotate_left
      · have q1 : ((c1 : Int) == (c2 : Int)) = false := by simp; omega
        have q2 : (c1 == c2) = false := by simpa using h3
        have hvf : Hid (v = false) := hide (by rw [HVv.out]; simp [h3])
        clear h3 HVv
        go_wp2_with fail
        go_ret
        exact ⟨by rw [hvf.out]; rfl, HMo.out.drewN _⟩
      subst h3
      by_cases h4 : i1 = i2
      rotate_left
      · have q1 : (i1 == i2) = false := by simpa using h4
        have hvf : Hid (v = false) := hide (by rw [HVv.out]; simp [h4])
        clear h4 HVv
        go_wp2_with fail
        go_ret
        exact ⟨by rw [hvf.out]; rfl, HMo.out.drewN _⟩
      subst h4
      by_cases h5 : d1 = d2
      rotate_left
      · have q1 := toList_ne h5
        have hvf : Hid (v = false) := hide (by rw [HVv.out]; simp [h5])
        clear h5 HVv
        go_wp2_with fail
        go_ret
        exact ⟨by rw [hvf.out]; rfl, HMo.out.drewN _⟩
      subst h5
      by_cases h6 : m1 = m2
      rotate_left
      · have q1 := toList_ne h6
        have hvf : Hid (v = false) := hide (by rw [HVv.out]; simp [h6])
        clear h6 HVv
        go_wp2_with fail
        go_ret
        exact ⟨by rw [hvf.out]; rfl, HMo.out.drewN _⟩
      subst h6
      have hvt : Hid (v = true) := hide (by rw [HVv.out]; simp)
      clear HVv
      go_wp2_with fail
      go_ret
      exact ⟨by rw [hvt.out]; rfl, HMo.out.drewN _⟩
end Go.Proofs.YtbjmcnmcodbkdaaDoor

/-
  frames: the document's package: May, kinds ping, tok, chal.
-/
namespace Go.Proofs.YtbjmcnmcodbkdaaDoor
open Go.RowKit
set_option linter.unusedSimpArgs false

set_option maxRecDepth 100000 in
set_option maxHeartbeats 8000000 in
theorem rmay_ping (w : World) (A : Option Addr) (n c : Nat) (k a b e : Nat) (fin : Bool) (data more : ByteArray) (list : List (Nat × Nat)) (hr : Rngs w A n list) (hk : k = 1 ∨ k = 30) (ha : a < 4611686018427387904) (hb : b < 4611686018427387904) (he : e < 4611686018427387904) (hd : data.size ≤ 16384) :
    Calls Tryd.prog 21 #[fval A n c ⟨k, a, b, e, fin, data, more, list⟩] w (RPost w (fmay ⟨k, a, b, e, fin, data, more, list⟩)) := by
  have hn62 := hr.2.1
  have hln := hr.1
  have hl0 : list = [] ↔ n = 0 := by
    constructor
    · intro h; rw [h] at hln; simpa using hln.symm
    · intro h; exact List.eq_nil_of_length_eq_zero (by omega)
  have HK := hide hk
  have HL0 := hide hl0
  have HR := hide hr
  have HN := hide (fun w => rnumbers_any w k)
  have HD := hide (fun w => rdata_any w k)
  rw [show fnumI k = 0 by rcases hk with rfl | rfl <;> rfl] at HN
  rw [show fdata k = false by rcases hk with rfl | rfl <;> rfl] at HD
  have a1 : decide ((4611686018427387904 : Int) ≤ a) = false := decide_eq_false (by omega)
  have a2 : decide (4611686018427387904 ≤ a) = false := decide_eq_false (by omega)
  have b1 : decide ((4611686018427387904 : Int) ≤ b) = false := decide_eq_false (by omega)
  have b2 : decide (4611686018427387904 ≤ b) = false := decide_eq_false (by omega)
  have e1 : decide ((4611686018427387904 : Int) ≤ e) = false := decide_eq_false (by omega)
  have e2 : decide (4611686018427387904 ≤ e) = false := decide_eq_false (by omega)
  have d1 : decide ((16384 : Int) < data.size) = false := decide_eq_false (by omega)
  have d2 : decide (16384 < data.size) = false := decide_eq_false (by omega)
  have k0 : ((k : Int) == 0) = false := by simp; omega
  have k2 : ((k : Int) == 2) = false := by simp; omega
  have m2 : ((k : Int) != 2) = true := by simp; omega
  have k3 : ((k : Int) == 3) = false := by simp; omega
  have m3 : ((k : Int) != 3) = true := by simp; omega
  have k6 : ((k : Int) == 6) = false := by simp; omega
  have k7 : ((k : Int) == 7) = false := by simp; omega
  have k8 : ((k : Int) == 8) = false := by simp; omega
  have m8 : ((k : Int) != 8) = true := by simp; omega
  have k18 : ((k : Int) == 18) = false := by simp; omega
  have k19 : ((k : Int) == 19) = false := by simp; omega
  have k22 : ((k : Int) == 22) = false := by simp; omega
  have k23 : ((k : Int) == 23) = false := by simp; omega
  have k24 : ((k : Int) == 24) = false := by simp; omega
  have m24 : ((k : Int) != 24) = true := by simp; omega
  have k26 : ((k : Int) == 26) = false := by simp; omega
  have k27 : ((k : Int) == 27) = false := by simp; omega
  unfold fval fcs
  simp only
  clear hr hln hl0 hk
  by_cases h0 : a = 0
  rotate_left
  · have HV : Hid (fmay ⟨k, a, b, e, fin, data, more, list⟩ = false) := hide (by have hk := HK.out; rcases hk with rfl | rfl <;> simp [fmay, fshape, fclear, flimits, fown, facks, h0])
    have z0 : ((a : Int) != 0) = true := by simp; omega
    have y0 : (a != 0) = true := by simp; omega
    clear h0
    go_enter Tryd.func21, Tryd.ntmps21
    go_wp2_with fail
    refine (HN.out _).mono ?_
    rintro e w1 ⟨rfl, rfl⟩
    simp only [List.append_eq, List.cons_append, List.nil_append] at *
    go_wp2_with fail
    go_ret
    exact RPost.of HV.out ((Mod.refl _ _).alloc _)
  have z0 : ((a : Int) != 0) = false := by simp; omega
  have y0 : (a != 0) = false := by simp; omega
  have H0 := hide h0
  clear h0
  by_cases h1 : b = 0
  rotate_left
  · have HV : Hid (fmay ⟨k, a, b, e, fin, data, more, list⟩ = false) := hide (by have hk := HK.out; rcases hk with rfl | rfl <;> simp [fmay, fshape, fclear, flimits, fown, facks, h1])
    have z1 : ((b : Int) != 0) = true := by simp; omega
    have y1 : (b != 0) = true := by simp; omega
    clear h1
    go_enter Tryd.func21, Tryd.ntmps21
    go_wp2_with fail
    refine (HN.out _).mono ?_
    rintro e w1 ⟨rfl, rfl⟩
    simp only [List.append_eq, List.cons_append, List.nil_append] at *
    go_wp2_with fail
    go_ret
    exact RPost.of HV.out ((Mod.refl _ _).alloc _)
  have z1 : ((b : Int) != 0) = false := by simp; omega
  have y1 : (b != 0) = false := by simp; omega
  have H1 := hide h1
  clear h1
  by_cases h2 : e = 0
  rotate_left
  · have HV : Hid (fmay ⟨k, a, b, e, fin, data, more, list⟩ = false) := hide (by have hk := HK.out; rcases hk with rfl | rfl <;> simp [fmay, fshape, fclear, flimits, fown, facks, h2])
    have z2 : ((e : Int) != 0) = true := by simp; omega
    have y2 : (e != 0) = true := by simp; omega
    clear h2
    go_enter Tryd.func21, Tryd.ntmps21
    go_wp2_with fail
    refine (HN.out _).mono ?_
    rintro e w1 ⟨rfl, rfl⟩
    simp only [List.append_eq, List.cons_append, List.nil_append] at *
    go_wp2_with fail
    go_ret
    exact RPost.of HV.out ((Mod.refl _ _).alloc _)
  have z2 : ((e : Int) != 0) = false := by simp; omega
  have y2 : (e != 0) = false := by simp; omega
  have H2 := hide h2
  clear h2
  by_cases h3 : data.size = 0
  rotate_left
  · have HV : Hid (fmay ⟨k, a, b, e, fin, data, more, list⟩ = false) := hide (by have hk := HK.out; rcases hk with rfl | rfl <;> simp [fmay, fshape, fclear, flimits, fown, facks, h3])
    have z3 : decide ((0 : Int) < data.size) = true := decide_eq_true (by omega)
    have y3 : decide (0 < data.size) = true := decide_eq_true (by omega)
    clear h3
    go_enter Tryd.func21, Tryd.ntmps21
    go_wp2_with fail
    refine (HN.out _).mono ?_
    rintro e w1 ⟨rfl, rfl⟩
    simp only [List.append_eq, List.cons_append, List.nil_append] at *
    go_wp2_with fail
    refine (HD.out _).mono ?_
    rintro e w2 ⟨rfl, rfl⟩
    go_wp2_with fail
    go_ret
    exact RPost.of HV.out ((Mod.refl _ _).alloc _)
  have z3 : decide ((0 : Int) < data.size) = false := decide_eq_false (by omega)
  have y3 : decide (0 < data.size) = false := decide_eq_false (by omega)
  have H3 := hide h3
  clear h3
  by_cases h4 : fin = false
  rotate_left
  · have HV : Hid (fmay ⟨k, a, b, e, fin, data, more, list⟩ = false) := hide (by have hk := HK.out; rcases hk with rfl | rfl <;> simp [fmay, fshape, fclear, flimits, fown, facks, h4])
    obtain rfl : fin = true := by simpa using h4
    clear h4
    go_enter Tryd.func21, Tryd.ntmps21
    go_wp2_with fail
    refine (HN.out _).mono ?_
    rintro e w1 ⟨rfl, rfl⟩
    simp only [List.append_eq, List.cons_append, List.nil_append] at *
    go_wp2_with fail
    refine (HD.out _).mono ?_
    rintro e w2 ⟨rfl, rfl⟩
    go_wp2_with fail
    go_ret
    exact RPost.of HV.out ((Mod.refl _ _).alloc _)
  subst h4
  by_cases h5 : more.size = 0
  rotate_left
  · have HV : Hid (fmay ⟨k, a, b, e, false, data, more, list⟩ = false) := hide (by have hk := HK.out; rcases hk with rfl | rfl <;> simp [fmay, fshape, fclear, flimits, fown, facks, h5])
    have z5 : decide ((0 : Int) < more.size) = true := decide_eq_true (by omega)
    have y5 : decide (0 < more.size) = true := decide_eq_true (by omega)
    clear h5
    go_enter Tryd.func21, Tryd.ntmps21
    go_wp2_with fail
    refine (HN.out _).mono ?_
    rintro e w1 ⟨rfl, rfl⟩
    simp only [List.append_eq, List.cons_append, List.nil_append] at *
    go_wp2_with fail
    refine (HD.out _).mono ?_
    rintro e w2 ⟨rfl, rfl⟩
    go_wp2_with fail
    go_ret
    exact RPost.of HV.out ((Mod.refl _ _).alloc _)
  have z5 : decide ((0 : Int) < more.size) = false := decide_eq_false (by omega)
  have y5 : decide (0 < more.size) = false := decide_eq_false (by omega)
  have H5 := hide h5
  clear h5
  by_cases h6 : n = 0
  rotate_left
  · have HV : Hid (fmay ⟨k, a, b, e, false, data, more, list⟩ = false) := hide (by have hk := HK.out; rcases hk with rfl | rfl <;> simp [fmay, fshape, fclear, flimits, fown, facks, HL0.out, h6])
    have z6 : decide ((0 : Int) < n) = true := decide_eq_true (by omega)
    have y6 : decide (0 < n) = true := decide_eq_true (by omega)
    clear h6
    go_enter Tryd.func21, Tryd.ntmps21
    go_wp2_with fail
    refine (HN.out _).mono ?_
    rintro e w1 ⟨rfl, rfl⟩
    simp only [List.append_eq, List.cons_append, List.nil_append] at *
    go_wp2_with fail
    refine (HD.out _).mono ?_
    rintro e w2 ⟨rfl, rfl⟩
    go_wp2_with fail
    go_ret
    exact RPost.of HV.out ((Mod.refl _ _).alloc _)
  have z6 : decide ((0 : Int) < n) = false := decide_eq_false (by omega)
  have y6 : decide (0 < n) = false := decide_eq_false (by omega)
  have H6 := hide h6
  clear h6
  have HV : Hid (fmay ⟨k, a, b, e, false, data, more, list⟩ = (true)) := hide (by have hk := HK.out; rcases hk with rfl | rfl <;> simp [fmay, fshape, fclear, flimits, fown, facks, H0.out, H1.out, H2.out, H3.out, H5.out, HL0.out, H6.out, show a < 4611686018427387904 from ha, show b < 4611686018427387904 from hb, show e < 4611686018427387904 from he, show data.size ≤ 16384 from hd])
  go_enter Tryd.func21, Tryd.ntmps21
  go_wp2_with fail
  refine (HN.out _).mono ?_
  rintro e w1 ⟨rfl, rfl⟩
  simp only [List.append_eq, List.cons_append, List.nil_append] at *
  go_wp2_with fail
  refine (HD.out _).mono ?_
  rintro e w2 ⟨rfl, rfl⟩
  go_wp2_with fail
  go_ret
  exact RPost.of HV.out ((Mod.refl _ _).alloc _)

set_option maxRecDepth 100000 in
set_option maxHeartbeats 8000000 in
theorem rmay_tok (w : World) (A : Option Addr) (n c : Nat) (k a b e : Nat) (fin : Bool) (data more : ByteArray) (list : List (Nat × Nat)) (hr : Rngs w A n list) (hk : k = 7) (ha : a < 4611686018427387904) (hb : b < 4611686018427387904) (he : e < 4611686018427387904) (hd : data.size ≤ 16384) :
    Calls Tryd.prog 21 #[fval A n c ⟨k, a, b, e, fin, data, more, list⟩] w (RPost w (fmay ⟨k, a, b, e, fin, data, more, list⟩)) := by
  have hn62 := hr.2.1
  have hln := hr.1
  have hl0 : list = [] ↔ n = 0 := by
    constructor
    · intro h; rw [h] at hln; simpa using hln.symm
    · intro h; exact List.eq_nil_of_length_eq_zero (by omega)
  have HK := hide hk
  have HL0 := hide hl0
  have HR := hide hr
  have HN := hide (fun w => rnumbers_any w k)
  have HD := hide (fun w => rdata_any w k)
  rw [show fnumI k = 0 by subst hk; rfl] at HN
  rw [show fdata k = true by subst hk; rfl] at HD
  have a1 : decide ((4611686018427387904 : Int) ≤ a) = false := decide_eq_false (by omega)
  have a2 : decide (4611686018427387904 ≤ a) = false := decide_eq_false (by omega)
  have b1 : decide ((4611686018427387904 : Int) ≤ b) = false := decide_eq_false (by omega)
  have b2 : decide (4611686018427387904 ≤ b) = false := decide_eq_false (by omega)
  have e1 : decide ((4611686018427387904 : Int) ≤ e) = false := decide_eq_false (by omega)
  have e2 : decide (4611686018427387904 ≤ e) = false := decide_eq_false (by omega)
  have d1 : decide ((16384 : Int) < data.size) = false := decide_eq_false (by omega)
  have d2 : decide (16384 < data.size) = false := decide_eq_false (by omega)
  have k0 : ((k : Int) == 0) = false := by simp; omega
  have k2 : ((k : Int) == 2) = false := by simp; omega
  have m2 : ((k : Int) != 2) = true := by simp; omega
  have k3 : ((k : Int) == 3) = false := by simp; omega
  have m3 : ((k : Int) != 3) = true := by simp; omega
  have k6 : ((k : Int) == 6) = false := by simp; omega
  have k7 : ((k : Int) == 7) = true := by simp; omega
  have k8 : ((k : Int) == 8) = false := by simp; omega
  have m8 : ((k : Int) != 8) = true := by simp; omega
  have k18 : ((k : Int) == 18) = false := by simp; omega
  have k19 : ((k : Int) == 19) = false := by simp; omega
  have k22 : ((k : Int) == 22) = false := by simp; omega
  have k23 : ((k : Int) == 23) = false := by simp; omega
  have k24 : ((k : Int) == 24) = false := by simp; omega
  have m24 : ((k : Int) != 24) = true := by simp; omega
  have k26 : ((k : Int) == 26) = false := by simp; omega
  have k27 : ((k : Int) == 27) = false := by simp; omega
  unfold fval fcs
  simp only
  clear hr hln hl0 hk
  by_cases h0 : a = 0
  rotate_left
  · have HV : Hid (fmay ⟨k, a, b, e, fin, data, more, list⟩ = false) := hide (by have hk := HK.out; subst hk <;> simp [fmay, fshape, fclear, flimits, fown, facks, h0])
    have z0 : ((a : Int) != 0) = true := by simp; omega
    have y0 : (a != 0) = true := by simp; omega
    clear h0
    go_enter Tryd.func21, Tryd.ntmps21
    go_wp2_with fail
    refine (HN.out _).mono ?_
    rintro e w1 ⟨rfl, rfl⟩
    simp only [List.append_eq, List.cons_append, List.nil_append] at *
    go_wp2_with fail
    go_ret
    exact RPost.of HV.out ((Mod.refl _ _).alloc _)
  have z0 : ((a : Int) != 0) = false := by simp; omega
  have y0 : (a != 0) = false := by simp; omega
  have H0 := hide h0
  clear h0
  by_cases h1 : b = 0
  rotate_left
  · have HV : Hid (fmay ⟨k, a, b, e, fin, data, more, list⟩ = false) := hide (by have hk := HK.out; subst hk <;> simp [fmay, fshape, fclear, flimits, fown, facks, h1])
    have z1 : ((b : Int) != 0) = true := by simp; omega
    have y1 : (b != 0) = true := by simp; omega
    clear h1
    go_enter Tryd.func21, Tryd.ntmps21
    go_wp2_with fail
    refine (HN.out _).mono ?_
    rintro e w1 ⟨rfl, rfl⟩
    simp only [List.append_eq, List.cons_append, List.nil_append] at *
    go_wp2_with fail
    go_ret
    exact RPost.of HV.out ((Mod.refl _ _).alloc _)
  have z1 : ((b : Int) != 0) = false := by simp; omega
  have y1 : (b != 0) = false := by simp; omega
  have H1 := hide h1
  clear h1
  by_cases h2 : e = 0
  rotate_left
  · have HV : Hid (fmay ⟨k, a, b, e, fin, data, more, list⟩ = false) := hide (by have hk := HK.out; subst hk <;> simp [fmay, fshape, fclear, flimits, fown, facks, h2])
    have z2 : ((e : Int) != 0) = true := by simp; omega
    have y2 : (e != 0) = true := by simp; omega
    clear h2
    go_enter Tryd.func21, Tryd.ntmps21
    go_wp2_with fail
    refine (HN.out _).mono ?_
    rintro e w1 ⟨rfl, rfl⟩
    simp only [List.append_eq, List.cons_append, List.nil_append] at *
    go_wp2_with fail
    go_ret
    exact RPost.of HV.out ((Mod.refl _ _).alloc _)
  have z2 : ((e : Int) != 0) = false := by simp; omega
  have y2 : (e != 0) = false := by simp; omega
  have H2 := hide h2
  clear h2
  by_cases h4 : fin = false
  rotate_left
  · have HV : Hid (fmay ⟨k, a, b, e, fin, data, more, list⟩ = false) := hide (by have hk := HK.out; subst hk <;> simp [fmay, fshape, fclear, flimits, fown, facks, h4])
    obtain rfl : fin = true := by simpa using h4
    clear h4
    go_enter Tryd.func21, Tryd.ntmps21
    go_wp2_with fail
    refine (HN.out _).mono ?_
    rintro e w1 ⟨rfl, rfl⟩
    simp only [List.append_eq, List.cons_append, List.nil_append] at *
    go_wp2_with fail
    refine (HD.out _).mono ?_
    rintro e w2 ⟨rfl, rfl⟩
    go_wp2_with fail
    go_ret
    exact RPost.of HV.out ((Mod.refl _ _).alloc _)
  subst h4
  by_cases h5 : more.size = 0
  rotate_left
  · have HV : Hid (fmay ⟨k, a, b, e, false, data, more, list⟩ = false) := hide (by have hk := HK.out; subst hk <;> simp [fmay, fshape, fclear, flimits, fown, facks, h5])
    have z5 : decide ((0 : Int) < more.size) = true := decide_eq_true (by omega)
    have y5 : decide (0 < more.size) = true := decide_eq_true (by omega)
    clear h5
    go_enter Tryd.func21, Tryd.ntmps21
    go_wp2_with fail
    refine (HN.out _).mono ?_
    rintro e w1 ⟨rfl, rfl⟩
    simp only [List.append_eq, List.cons_append, List.nil_append] at *
    go_wp2_with fail
    refine (HD.out _).mono ?_
    rintro e w2 ⟨rfl, rfl⟩
    go_wp2_with fail
    go_ret
    exact RPost.of HV.out ((Mod.refl _ _).alloc _)
  have z5 : decide ((0 : Int) < more.size) = false := decide_eq_false (by omega)
  have y5 : decide (0 < more.size) = false := decide_eq_false (by omega)
  have H5 := hide h5
  clear h5
  by_cases h6 : n = 0
  rotate_left
  · have HV : Hid (fmay ⟨k, a, b, e, false, data, more, list⟩ = false) := hide (by have hk := HK.out; subst hk <;> simp [fmay, fshape, fclear, flimits, fown, facks, HL0.out, h6])
    have z6 : decide ((0 : Int) < n) = true := decide_eq_true (by omega)
    have y6 : decide (0 < n) = true := decide_eq_true (by omega)
    clear h6
    go_enter Tryd.func21, Tryd.ntmps21
    go_wp2_with fail
    refine (HN.out _).mono ?_
    rintro e w1 ⟨rfl, rfl⟩
    simp only [List.append_eq, List.cons_append, List.nil_append] at *
    go_wp2_with fail
    refine (HD.out _).mono ?_
    rintro e w2 ⟨rfl, rfl⟩
    go_wp2_with fail
    go_ret
    exact RPost.of HV.out ((Mod.refl _ _).alloc _)
  have z6 : decide ((0 : Int) < n) = false := decide_eq_false (by omega)
  have y6 : decide (0 < n) = false := decide_eq_false (by omega)
  have H6 := hide h6
  clear h6
  have HV : Hid (fmay ⟨k, a, b, e, false, data, more, list⟩ = (decide (data.size ≠ 0))) := hide (by have hk := HK.out; subst hk <;> simp [fmay, fshape, fclear, flimits, fown, facks, H0.out, H1.out, H2.out, H5.out, HL0.out, H6.out, show a < 4611686018427387904 from ha, show b < 4611686018427387904 from hb, show e < 4611686018427387904 from he, show data.size ≤ 16384 from hd])
  obtain ⟨X, hX⟩ : ∃ X, decide (data.size ≠ 0) = X := ⟨_, rfl⟩
  rw [hX] at HV
  have x1 : decide ((0 : Int) < data.size) = X := by rw [← hX]; exact decide_eq_decide.2 (by omega)
  have x2 : decide (0 < data.size) = X := by rw [← hX]; exact decide_eq_decide.2 (by omega)
  clear hX
  go_enter Tryd.func21, Tryd.ntmps21
  go_wp2_with fail
  refine (HN.out _).mono ?_
  rintro e w1 ⟨rfl, rfl⟩
  simp only [List.append_eq, List.cons_append, List.nil_append] at *
  go_wp2_with fail
  refine (HD.out _).mono ?_
  rintro e w2 ⟨rfl, rfl⟩
  go_wp2_with fail
  go_ret
  exact RPost.of HV.out ((Mod.refl _ _).alloc _)

set_option maxRecDepth 100000 in
set_option maxHeartbeats 8000000 in
theorem rmay_chal (w : World) (A : Option Addr) (n c : Nat) (k a b e : Nat) (fin : Bool) (data more : ByteArray) (list : List (Nat × Nat)) (hr : Rngs w A n list) (hk : k = 26 ∨ k = 27) (ha : a < 4611686018427387904) (hb : b < 4611686018427387904) (he : e < 4611686018427387904) (hd : data.size ≤ 16384) :
    Calls Tryd.prog 21 #[fval A n c ⟨k, a, b, e, fin, data, more, list⟩] w (RPost w (fmay ⟨k, a, b, e, fin, data, more, list⟩)) := by
  have hn62 := hr.2.1
  have hln := hr.1
  have hl0 : list = [] ↔ n = 0 := by
    constructor
    · intro h; rw [h] at hln; simpa using hln.symm
    · intro h; exact List.eq_nil_of_length_eq_zero (by omega)
  have HK := hide hk
  have HL0 := hide hl0
  have HR := hide hr
  have HN := hide (fun w => rnumbers_any w k)
  have HD := hide (fun w => rdata_any w k)
  rw [show fnumI k = 0 by rcases hk with rfl | rfl <;> rfl] at HN
  rw [show fdata k = true by rcases hk with rfl | rfl <;> rfl] at HD
  have a1 : decide ((4611686018427387904 : Int) ≤ a) = false := decide_eq_false (by omega)
  have a2 : decide (4611686018427387904 ≤ a) = false := decide_eq_false (by omega)
  have b1 : decide ((4611686018427387904 : Int) ≤ b) = false := decide_eq_false (by omega)
  have b2 : decide (4611686018427387904 ≤ b) = false := decide_eq_false (by omega)
  have e1 : decide ((4611686018427387904 : Int) ≤ e) = false := decide_eq_false (by omega)
  have e2 : decide (4611686018427387904 ≤ e) = false := decide_eq_false (by omega)
  have d1 : decide ((16384 : Int) < data.size) = false := decide_eq_false (by omega)
  have d2 : decide (16384 < data.size) = false := decide_eq_false (by omega)
  have k0 : ((k : Int) == 0) = false := by simp; omega
  have k2 : ((k : Int) == 2) = false := by simp; omega
  have m2 : ((k : Int) != 2) = true := by simp; omega
  have k3 : ((k : Int) == 3) = false := by simp; omega
  have m3 : ((k : Int) != 3) = true := by simp; omega
  have k6 : ((k : Int) == 6) = false := by simp; omega
  have k7 : ((k : Int) == 7) = false := by simp; omega
  have k8 : ((k : Int) == 8) = false := by simp; omega
  have m8 : ((k : Int) != 8) = true := by simp; omega
  have k18 : ((k : Int) == 18) = false := by simp; omega
  have k19 : ((k : Int) == 19) = false := by simp; omega
  have k22 : ((k : Int) == 22) = false := by simp; omega
  have k23 : ((k : Int) == 23) = false := by simp; omega
  have k24 : ((k : Int) == 24) = false := by simp; omega
  have m24 : ((k : Int) != 24) = true := by simp; omega
  unfold fval fcs
  simp only
  clear hr hln hl0 hk
  by_cases h0 : a = 0
  rotate_left
  · have HV : Hid (fmay ⟨k, a, b, e, fin, data, more, list⟩ = false) := hide (by have hk := HK.out; rcases hk with rfl | rfl <;> simp [fmay, fshape, fclear, flimits, fown, facks, h0])
    have z0 : ((a : Int) != 0) = true := by simp; omega
    have y0 : (a != 0) = true := by simp; omega
    clear h0
    go_enter Tryd.func21, Tryd.ntmps21
    go_wp2_with fail
    refine (HN.out _).mono ?_
    rintro e w1 ⟨rfl, rfl⟩
    simp only [List.append_eq, List.cons_append, List.nil_append] at *
    go_wp2_with fail
    go_ret
    exact RPost.of HV.out ((Mod.refl _ _).alloc _)
  have z0 : ((a : Int) != 0) = false := by simp; omega
  have y0 : (a != 0) = false := by simp; omega
  have H0 := hide h0
  clear h0
  by_cases h1 : b = 0
  rotate_left
  · have HV : Hid (fmay ⟨k, a, b, e, fin, data, more, list⟩ = false) := hide (by have hk := HK.out; rcases hk with rfl | rfl <;> simp [fmay, fshape, fclear, flimits, fown, facks, h1])
    have z1 : ((b : Int) != 0) = true := by simp; omega
    have y1 : (b != 0) = true := by simp; omega
    clear h1
    go_enter Tryd.func21, Tryd.ntmps21
    go_wp2_with fail
    refine (HN.out _).mono ?_
    rintro e w1 ⟨rfl, rfl⟩
    simp only [List.append_eq, List.cons_append, List.nil_append] at *
    go_wp2_with fail
    go_ret
    exact RPost.of HV.out ((Mod.refl _ _).alloc _)
  have z1 : ((b : Int) != 0) = false := by simp; omega
  have y1 : (b != 0) = false := by simp; omega
  have H1 := hide h1
  clear h1
  by_cases h2 : e = 0
  rotate_left
  · have HV : Hid (fmay ⟨k, a, b, e, fin, data, more, list⟩ = false) := hide (by have hk := HK.out; rcases hk with rfl | rfl <;> simp [fmay, fshape, fclear, flimits, fown, facks, h2])
    have z2 : ((e : Int) != 0) = true := by simp; omega
    have y2 : (e != 0) = true := by simp; omega
    clear h2
    go_enter Tryd.func21, Tryd.ntmps21
    go_wp2_with fail
    refine (HN.out _).mono ?_
    rintro e w1 ⟨rfl, rfl⟩
    simp only [List.append_eq, List.cons_append, List.nil_append] at *
    go_wp2_with fail
    go_ret
    exact RPost.of HV.out ((Mod.refl _ _).alloc _)
  have z2 : ((e : Int) != 0) = false := by simp; omega
  have y2 : (e != 0) = false := by simp; omega
  have H2 := hide h2
  clear h2
  by_cases h4 : fin = false
  rotate_left
  · have HV : Hid (fmay ⟨k, a, b, e, fin, data, more, list⟩ = false) := hide (by have hk := HK.out; rcases hk with rfl | rfl <;> simp [fmay, fshape, fclear, flimits, fown, facks, h4])
    obtain rfl : fin = true := by simpa using h4
    clear h4
    go_enter Tryd.func21, Tryd.ntmps21
    go_wp2_with fail
    refine (HN.out _).mono ?_
    rintro e w1 ⟨rfl, rfl⟩
    simp only [List.append_eq, List.cons_append, List.nil_append] at *
    go_wp2_with fail
    refine (HD.out _).mono ?_
    rintro e w2 ⟨rfl, rfl⟩
    go_wp2_with fail
    go_ret
    exact RPost.of HV.out ((Mod.refl _ _).alloc _)
  subst h4
  by_cases h5 : more.size = 0
  rotate_left
  · have HV : Hid (fmay ⟨k, a, b, e, false, data, more, list⟩ = false) := hide (by have hk := HK.out; rcases hk with rfl | rfl <;> simp [fmay, fshape, fclear, flimits, fown, facks, h5])
    have z5 : decide ((0 : Int) < more.size) = true := decide_eq_true (by omega)
    have y5 : decide (0 < more.size) = true := decide_eq_true (by omega)
    clear h5
    go_enter Tryd.func21, Tryd.ntmps21
    go_wp2_with fail
    refine (HN.out _).mono ?_
    rintro e w1 ⟨rfl, rfl⟩
    simp only [List.append_eq, List.cons_append, List.nil_append] at *
    go_wp2_with fail
    refine (HD.out _).mono ?_
    rintro e w2 ⟨rfl, rfl⟩
    go_wp2_with fail
    go_ret
    exact RPost.of HV.out ((Mod.refl _ _).alloc _)
  have z5 : decide ((0 : Int) < more.size) = false := decide_eq_false (by omega)
  have y5 : decide (0 < more.size) = false := decide_eq_false (by omega)
  have H5 := hide h5
  clear h5
  by_cases h6 : n = 0
  rotate_left
  · have HV : Hid (fmay ⟨k, a, b, e, false, data, more, list⟩ = false) := hide (by have hk := HK.out; rcases hk with rfl | rfl <;> simp [fmay, fshape, fclear, flimits, fown, facks, HL0.out, h6])
    have z6 : decide ((0 : Int) < n) = true := decide_eq_true (by omega)
    have y6 : decide (0 < n) = true := decide_eq_true (by omega)
    clear h6
    go_enter Tryd.func21, Tryd.ntmps21
    go_wp2_with fail
    refine (HN.out _).mono ?_
    rintro e w1 ⟨rfl, rfl⟩
    simp only [List.append_eq, List.cons_append, List.nil_append] at *
    go_wp2_with fail
    refine (HD.out _).mono ?_
    rintro e w2 ⟨rfl, rfl⟩
    go_wp2_with fail
    go_ret
    exact RPost.of HV.out ((Mod.refl _ _).alloc _)
  have z6 : decide ((0 : Int) < n) = false := decide_eq_false (by omega)
  have y6 : decide (0 < n) = false := decide_eq_false (by omega)
  have H6 := hide h6
  clear h6
  have HV : Hid (fmay ⟨k, a, b, e, false, data, more, list⟩ = (decide (data.size = 8))) := hide (by have hk := HK.out; rcases hk with rfl | rfl <;> simp [fmay, fshape, fclear, flimits, fown, facks, H0.out, H1.out, H2.out, H5.out, HL0.out, H6.out, show a < 4611686018427387904 from ha, show b < 4611686018427387904 from hb, show e < 4611686018427387904 from he, show data.size ≤ 16384 from hd])
  obtain ⟨X, hX⟩ : ∃ X, decide (data.size = 8) = X := ⟨_, rfl⟩
  rw [hX] at HV
  have x1 : ((data.size : Int) == 8) = X := by rw [← hX, Bool.eq_iff_iff]; simp; omega
  have x2 : (data.size == 8) = X := by rw [← hX, Bool.eq_iff_iff]; simp
  clear hX
  have hk := HK.out
  rcases hk with hk | hk
  all_goals
    subst hk
    go_enter Tryd.func21, Tryd.ntmps21
    go_wp2_with fail
    refine (HN.out _).mono ?_
    rintro e w1 ⟨rfl, rfl⟩
    simp only [List.append_eq, List.cons_append, List.nil_append] at *
    go_wp2_with fail
    refine (HD.out _).mono ?_
    rintro e w2 ⟨rfl, rfl⟩
    go_wp2_with fail
    go_ret
    exact RPost.of HV.out ((Mod.refl _ _).alloc _)
end Go.Proofs.YtbjmcnmcodbkdaaDoor
