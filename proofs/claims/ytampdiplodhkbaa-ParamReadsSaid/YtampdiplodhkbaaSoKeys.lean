/-
  maps.Keys at a map keyed by uint64: its iterator gives each key once, in some order.
-/
import Derived.Test.YtampdiplodhkbaaSoPdq
import Derived.Test.YtampdiplodhkbaaMap
import Derived.RangeFuncBox
import Derived.RangeFuncLeaves
import Derived.OwnWalkIn
import Derived.TacticsInMore
import Derived.LoopNIn
import Derived.LoopIn
namespace Go.Proofs.Ytampdiplodhkbaa
open Go.RowKit Go.Sort Go.Shelf

theorem Mod.grow1 {w w' : World} {r : Nat} (h : Mod [r] w w') : w.grownBy w' (some r) :=
  ⟨h.os, h.tape, h.output, h.size, fun k hk hn => h.block k hk (by simpa using fun e => hn (by rw [e]))⟩
theorem Mod.grow0 {w w' : World} (h : Mod [] w w') : w.grownBy w' none :=
  ⟨h.os, h.tape, h.output, h.size, fun k hk _ => h.block k hk (by simp)⟩
theorem IIter.walks {w w' : World} {b r : Nat} {q : IntKind} {f : Int → Option Value} {left : Int → Bool} {cnt : Nat} (h : IIter w b r q f left cnt) (hk : KeepsWalks w w') : IIter w' b r q f left cnt := by
  obtain ⟨es, clock, since, seen, c0, hb, F', hf, hr, rest⟩ := h
  exact ⟨es, clock, since, seen, c0, hk.same b _ hb rfl, F', hf, hk.same r _ hr rfl, rest⟩
theorem IIter.walk {w : World} {b r : Nat} {q : IntKind} {f : Int → Option Value} {left : Int → Bool} {cnt : Nat} (h : IIter w b r q f left cnt) : ∃ o : Obj, w.heap[r]? = some o ∧ o.isWalk = true := by
  obtain ⟨es, clock, since, seen, c0, _, _, _, hr, _⟩ := h
  exact ⟨_, hr, rfl⟩
theorem nodup_le : ∀ (l K : List Int), l.Nodup → (∀ x ∈ l, x ∈ K) → l.length ≤ K.length
  | [], K, _, _ => by simp
  | x :: t, K, h, hs => by
    have h1 := List.nodup_cons.1 h
    have hx : x ∈ K := hs x (by simp)
    have := nodup_le t (K.erase x) h1.2 (fun y hy => (List.mem_erase_of_ne (fun e => h1.1 (by rw [← e]; exact hy))).2 (hs y (by simp [hy])))
    have h2 := List.length_erase_of_mem hx
    have h3 := List.length_pos_of_mem hx
    simp only [List.length_cons]
    omega
theorem IIter.cnt_le {w : World} {b r : Nat} {q : IntKind} {f : Int → Option Value} {left : Int → Bool} {cnt : Nat} (h : IIter w b r q f left cnt) (K : List Int) (hK : ∀ x, left x = true → x ∈ K) : cnt ≤ K.length := by
  obtain ⟨es, clock, since, seen, c0, hb, F, hf, hr, ho, hc, hl, _⟩ := h
  have e1 : (leftOf es seen).size = (es.toList.filter fun e => !seen.contains e.born).length := by
    unfold leftOf
    rw [← Array.toList_filter, Array.length_toList]
  rw [← hc, e1]
  have hsub : ∀ e ∈ es.toList.filter (fun e => !seen.contains e.born), ∃ x, e.key = .int q x ∧ x ∈ K := fun e he => by
    obtain ⟨h1, h2⟩ := List.mem_filter.1 he
    obtain ⟨x, hx⟩ := F.keys e h1
    exact ⟨x, hx, hK x ((hl x).2 ⟨e, h1, hx, by simpa using h2⟩)⟩
  have hap : (es.toList.filter fun e => !seen.contains e.born).Pairwise (fun a b => a.key ≠ b.key) := F.apart.filter _
  have := nodup_le ((es.toList.filter fun e => !seen.contains e.born).map fun e => intOf e.key) K (by
    rw [List.Nodup, List.pairwise_map]
    refine hap.imp_of_mem fun {a b} ha hb hne e => hne ?_
    obtain ⟨x, hx, _⟩ := hsub a ha
    obtain ⟨y, hy, _⟩ := hsub b hb
    rw [hx, hy] at e ⊢
    simp [intOf] at e
    rw [e]) (fun x hx => by
    obtain ⟨e, he, rfl⟩ := List.mem_map.1 hx
    obtain ⟨y, hy, hk⟩ := hsub e he
    rw [hy]
    simpa [intOf] using hk)
  simpa using this

/-- ss: the keys of f, each once. -/
def KeysOf (f : Int → Option Value) (ss : List Int) : Prop := ss.Nodup ∧ ∀ x, x ∈ ss ↔ (f x).isSome = true

set_option maxRecDepth 100000 in
set_option maxHeartbeats 2000000 in
theorem keys1_u64 (F : Fence) (n : Nat) (hf1 : F.fn 42) (hro : F.round = none) (l Bm b N : Nat) (f : Int → Option Value) (J Jx : List Int → World → Prop)
    (hY : ∀ pre x W, J pre W → pre.length < N → YieldAt F (n - 1) Try.prog l #[.int .u64 x] W fun e W' =>
      (e = .returned (.bool true) ∧ J (pre ++ [x]) W' ∧ KeepsWalks W W') ∨ (e = .returned (.bool false) ∧ Jx (pre ++ [x]) W'))
    (W : World) (hJ : AbidesFrom W.heap.size J) (hm : W.cell? ⟨Bm, 0, none⟩ = some (.map (some b))) (hown : IMap W b .u64 f) (K : List Int) (hK : ∀ x, (f x).isSome = true → x ∈ K) (hKN : K.length ≤ N) (h0 : J [] W) (hn : 1 ≤ n) :
    CallsIn F n Try.prog 42 #[.func (.yield l) #[] #[], .pointer (some ⟨Bm, 0, none⟩)] W fun e W' => (∃ v, e = .returned v) ∧
      ((∃ ss, KeysOf f ss ∧ J ss W') ∨ (∃ pre, True ∧ Jx pre W')) := by
  obtain ⟨w0, cnt0, hrun, hit, hm0, hs0⟩ := hown.range (P := Try.prog) (T := 67) Try.underlying67
  have hJ0 : J [] w0 := hJ [] W w0 none h0 hm0.grow0 (fun r e => by cases e)
  have hc0 : cnt0 ≤ N := Nat.le_trans (hit.cnt_le K hK) hKN
  have HIT := hide hit
  have HJ0 := hide hJ0
  have HK := hide hK
  clear hit hJ0 h0 hown hK
  refine callsIn_of_wp Try.func42 rfl hf1 ?_ hro
  simp only [Try.ntmps42, List.size_toArray, List.length_cons, List.length_nil, Nat.reduceAdd, Nat.reduceSub, Array.replicate_succ, Array.replicate_zero, List.push_toArray, List.append_toArray, List.nil_append, List.cons_append]
  gi_wp2
  gi_loopw [3] (fun _ wr => ∃ (left : Int → Bool) (cnt : Nat) (ss : List Int), IIter wr b W.heap.size .u64 f left cnt ∧ ss.length + cnt ≤ N ∧ (ss.Nodup ∧ ∀ x, x ∈ ss ↔ ((f x).isSome = true ∧ left x = false)) ∧ J ss wr)
    (fun _ wr => wr.rangeLeft b W.heap.size)
  case atStart => exact ⟨_, _, [], HIT.out, by simpa using hc0, ⟨List.nodup_nil, fun x => by cases (f x).isSome <;> simp⟩, HJ0.out⟩
  case round =>
    obtain ⟨left, cnt, ss, hit, hcs, hC, hJs⟩ := hrel
    have HC := hide hC
    clear hC
    rcases hit.next (P := Try.prog) 0 with ⟨hz, hl0, hnx⟩ | ⟨x, v, w2, cnt2, hlx, hfx, hnx, hit2, hlt, hm2, hs2, hen⟩
    · have hks : Hid (KeysOf f ss) := hide ⟨HC.out.1, fun x => by rw [HC.out.2 x, hl0]; simp⟩
      clear hit
      gi_wp2
      go_end0
      exact ⟨⟨_, rfl⟩, .inl ⟨ss, hks.out, hJs⟩⟩
    · have hJ2 : J ss w2 := hJ ss wr w2 (some W.heap.size) hJs hm2.grow1 (fun r e => by cases e; exact ⟨Nat.le_refl _, hit.walk⟩)
      obtain ⟨fn, tmps, assign, body, hy, hR⟩ := hY ss x w2 hJ2 (by omega)
      have HIT2 := hide hit2
      have Hle := hide hit.left_eq
      clear hit hJs hit2
      gi_wp2
      refine hR.mono ?_
      rintro e W3 (⟨rfl, hJ3, hk3⟩ | ⟨rfl, hJx3⟩)
      · have hit3 := HIT2.out.walks hk3
        gi_wp2
        go_roundw
        case rel => exact ⟨_, cnt2, ss ++ [x], hit3, by simp; omega, ⟨List.nodup_append.2 ⟨HC.out.1, by simp, fun a ha b' hb' e => by
          simp at hb'
          have := ((HC.out.2 a).1 ha).2
          rw [e, hb', hlx] at this
          cases this⟩, fun y => by
            rw [List.mem_append, List.mem_singleton, HC.out.2 y]
            by_cases hyx : y = x
            · subst hyx; simp [hfx]
            · simp [hyx]⟩, hJ3⟩
        case measure => rw [hit3.left_eq, Hle.out]; exact hlt
      · gi_wp2
        refine bodyPost_ret (results_none rfl _ _ _) rfl ?_
        exact ⟨⟨_, rfl⟩, .inr ⟨ss ++ [x], trivial, hJx3⟩⟩

set_option maxHeartbeats 1000000 in
theorem keys_u64 (F : Fence) (n : Nat) (hf : F.fn 31) (hro : F.round = none) (mb : Option Nat) (w : World) :
    CallsIn F n Try.prog 31 #[.map mb] w fun e w' => e = .returned (.func (.func 42) #[] #[.pointer (some ⟨w.heap.size, 0, none⟩)]) ∧ w' = w.alloc (.cells #[.map mb] 67) := by
  refine callsIn_of_wp Try.func31 rfl hf ?_ hro
  simp only [Try.ntmps31, List.size_toArray, List.length_cons, List.length_nil, Nat.reduceAdd, Nat.reduceSub, Array.replicate_succ, Array.replicate_zero, List.push_toArray, List.append_toArray, List.nil_append, List.cons_append]
  gi_wp2
  go_ret
  exact ⟨rfl, rfl⟩

/-- what maps.Keys hands back, as the law on a loop over it asks -/
theorem keys_stops (F : Fence) (n : Nat) (hf1 : F.fn 42) (hro : F.round = none) (hn : 1 ≤ n) (Bm b N : Nat) (f : Int → Option Value) (w : World) (hBm : Bm < w.heap.size)
    (hc : w.cell? ⟨Bm, 0, none⟩ = some (.map (some b))) (hown : IMap w b .u64 f) (K : List Int) (hK : ∀ x, (f x).isSome = true → x ∈ K) (hKN : K.length ≤ N) :
    SeqStopsK F n Try.prog 42 #[.pointer (some ⟨Bm, 0, none⟩)] (fun x : Int => #[Value.int .u64 x]) KeepsWalks (KeysOf f) (fun _ => True) N w := fun l J Jx W hW hJ _ hY h0 =>
  keys1_u64 F n hf1 hro l Bm b N f J Jx hY W hJ ((hW.cell (p := ⟨Bm, 0, none⟩) hBm).trans hc) (hown.same (hW.block b hown.lt)) K hK hKN h0 hn
end Go.Proofs.Ytampdiplodhkbaa
