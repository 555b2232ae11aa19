/-
  Contracts and plain laws that the proofs of this seat share, part 7 of 11: StK, Lex, StD, StE, StF, StG, StH, StI.
-/
import Derived.Test.YtjdfemfobcjecaaGreatG4
import Derived.Test.YtjdfemfobcjecaaGreatG5
import Derived.Still
import Derived.Lib.QuietBelow
import Derived.Test.YtjdfemfobcjecaaGreatG6
import Derived.Test.YtjdfemfobcjecaaGreatG1
import Derived.Test.YtjdfemfobcjecaaGreatG2

/-
  streams: maps.Keys and slices.Sorted at the streams' map; a map's size; Ids.
-/
namespace Go.Proofs.YtjdfemfobcjecaaGreat
open Go.RowKit Go.Sort Go.Shelf
set_option linter.unusedVariables false
set_option linter.unusedSimpArgs false
set_option maxRecDepth 100000 in
set_option maxHeartbeats 2000000 in
theorem stkeys1 (F : Fence) (n : Nat) (hf1 : F.fn 54) (hro : F.round = none) (l Bm b N : Nat) (f : Int → Option Value) (J Jx : List Int → World → Prop)
    (hY : ∀ pre x W, J pre W → pre.length < N → YieldAt F (n - 1) Tryz.prog l #[.int .u64 x] W fun e W' =>
      (e = .returned (.bool true) ∧ J (pre ++ [x]) W' ∧ KeepsWalks W W') ∨ (e = .returned (.bool false) ∧ Jx (pre ++ [x]) W'))
    (W : World) (hJ : AbidesFrom W.heap.size J) (hm : W.cell? ⟨Bm, 0, none⟩ = some (.map (some b))) (hown : IMap W b .u64 f) (K : List Int) (hK : ∀ x, (f x).isSome = true → x ∈ K) (hKN : K.length ≤ N) (h0 : J [] W) (hn : 1 ≤ n) :
    CallsIn F n Tryz.prog 54 #[.func (.yield l) #[] #[], .pointer (some ⟨Bm, 0, none⟩)] W fun e W' => (∃ v, e = .returned v) ∧
      ((∃ ss, KeysOf f ss ∧ J ss W') ∨ (∃ pre, True ∧ Jx pre W')) := by
  obtain ⟨w0, cnt0, hrun, hit, hm0, hs0⟩ := hown.range (P := Tryz.prog) (T := 66) Tryz.underlying66
  have hJ0 : J [] w0 := hJ [] W w0 none h0 hm0.grow0 (fun r e => by cases e)
  have hc0 : cnt0 ≤ N := Nat.le_trans (hit.cnt_le K hK) hKN
  have HIT := hide hit
  have HJ0 := hide hJ0
  have HK := hide hK
  clear hit hJ0 h0 hown hK
  refine callsIn_of_wp Tryz.func54 rfl hf1 ?_ hro
  simp only [Tryz.ntmps54, List.size_toArray, List.length_cons, List.length_nil, Nat.reduceAdd, Nat.reduceSub, Array.replicate_succ, Array.replicate_zero, List.push_toArray, List.append_toArray, List.nil_append, List.cons_append]
  gi_wp2
  gi_loopw [3] (fun _ wr => ∃ (left : Int → Bool) (cnt : Nat) (ss : List Int), IIter wr b W.heap.size .u64 f left cnt ∧ ss.length + cnt ≤ N ∧ (ss.Nodup ∧ ∀ x, x ∈ ss ↔ ((f x).isSome = true ∧ left x = false)) ∧ J ss wr)
    (fun _ wr => wr.rangeLeft b W.heap.size)
  case atStart => exact ⟨_, _, [], HIT.out, by simpa using hc0, ⟨List.nodup_nil, fun x => by cases (f x).isSome <;> simp⟩, HJ0.out⟩
  case round =>
    obtain ⟨left, cnt, ss, hit, hcs, hC, hJs⟩ := hrel
    have HC := hide hC
    clear hC
    rcases hit.next (P := Tryz.prog) 0 with ⟨hz, hl0, hnx⟩ | ⟨x, v, w2, cnt2, hlx, hfx, hnx, hit2, hlt, hm2, hs2, hen⟩
    · have hks : Hid (KeysOf f ss) := hide ⟨HC.out.1, fun x => by rw [HC.out.2 x, hl0]; simp⟩
      clear hit
      gi_wp2
      go_end0
      exact ⟨⟨_, rfl⟩, .inl ⟨ss, hks.out, hJs⟩⟩
    · have hJ2 : J ss w2 := hJ ss wr w2 (some W.heap.size) hJs hm2.grow1 (fun r e => by cases e; exact ⟨Nat.le_refl _, hit.walk⟩)
      obtain ⟨fn, tmps, assign, body, hy, hR⟩ := hY ss x w2 hJ2 (by omega)
      have HIT2 := hide hit2
      have Hle := hide hit.left_eq
      clear hit hJs hit2
      gi_wp2
      refine hR.mono ?_
      rintro e W3 (⟨rfl, hJ3, hk3⟩ | ⟨rfl, hJx3⟩)
      · have hit3 := HIT2.out.walks hk3
        gi_wp2
        go_roundw
        case rel => exact ⟨_, cnt2, ss ++ [x], hit3, by simp; omega, ⟨List.nodup_append.2 ⟨HC.out.1, by simp, fun a ha b' hb' e => by
          simp at hb'
          have := ((HC.out.2 a).1 ha).2
          rw [e, hb', hlx] at this
          cases this⟩, fun y => by
            rw [List.mem_append, List.mem_singleton, HC.out.2 y]
            by_cases hyx : y = x
            · subst hyx; simp [hfx]
            · simp [hyx]⟩, hJ3⟩
        case measure => rw [hit3.left_eq, Hle.out]; exact hlt
      · gi_wp2
        refine bodyPost_ret (results_none rfl _ _ _) rfl ?_
        exact ⟨⟨_, rfl⟩, .inr ⟨ss ++ [x], trivial, hJx3⟩⟩

set_option maxHeartbeats 1000000 in
theorem stkeys (F : Fence) (n : Nat) (hf : F.fn 27) (hro : F.round = none) (mb : Option Nat) (w : World) :
    CallsIn F n Tryz.prog 27 #[.map mb] w fun e w' => e = .returned (.func (.func 54) #[] #[.pointer (some ⟨w.heap.size, 0, none⟩)]) ∧ w' = w.alloc (.cells #[.map mb] 66) := by
  refine callsIn_of_wp Tryz.func27 rfl hf ?_ hro
  simp only [Tryz.ntmps27, List.size_toArray, List.length_cons, List.length_nil, Nat.reduceAdd, Nat.reduceSub, Array.replicate_succ, Array.replicate_zero, List.push_toArray, List.append_toArray, List.nil_append, List.cons_append]
  gi_wp2
  go_ret
  exact ⟨rfl, rfl⟩

/-- what maps.Keys hands back, as the law on a loop over it asks -/
theorem stkeys_stops (F : Fence) (n : Nat) (hf1 : F.fn 54) (hro : F.round = none) (hn : 1 ≤ n) (Bm b N : Nat) (f : Int → Option Value) (w : World) (hBm : Bm < w.heap.size)
    (hc : w.cell? ⟨Bm, 0, none⟩ = some (.map (some b))) (hown : IMap w b .u64 f) (K : List Int) (hK : ∀ x, (f x).isSome = true → x ∈ K) (hKN : K.length ≤ N) :
    SeqStopsK F n Tryz.prog 54 #[.pointer (some ⟨Bm, 0, none⟩)] (fun x : Int => #[Value.int .u64 x]) KeepsWalks (KeysOf f) (fun _ => True) N w := fun l J Jx W hW hJ _ hY h0 =>
  stkeys1 F n hf1 hro l Bm b N f J Jx hY W hJ ((hW.cell (p := ⟨Bm, 0, none⟩) hBm).trans hc) (hown.same (hW.block b hown.lt)) K hK hKN h0 hn
set_option maxHeartbeats 2000000 in
/-- slices.Sorted of what maps.Keys hands back: a new slice of the keys, each once, ascending. -/
theorem stsorted (w : World) (Bm b : Nat) (f : Int → Option Value) (hBm : Bm < w.heap.size) (hc : w.cell? ⟨Bm, 0, none⟩ = some (.map (some b))) (hown : IMap w b .u64 f) (K : List Int) (hK : ∀ x, (f x).isSome = true → x ∈ K) (hKN : K.length < 65536) :
    Calls Tryz.prog 26 #[.func (.func 54) #[] #[.pointer (some ⟨Bm, 0, none⟩)]] w fun e w' => ∃ (v : Value) (ss : List Int), e = .returned v ∧ KeysOf f ss ∧ ss.Pairwise (· < ·) ∧
      w'.ownsRow w.heap.size 22 1 v ss.length (ss.map U) ∧ Mod [] w w' := by
  have hcol : Calls Tryz.prog 52 _ w _ := callsIn_wide.1 (collect_u64 Fence.wide 5 trivial trivial rfl (by omega) 54 #[.pointer (some ⟨Bm, 0, none⟩)] trivial (enters_of Tryz.func54 (by kernel_rfl) rfl) _ 65535 (by omega) w
    (stkeys_stops Fence.wide _ trivial rfl (by omega) Bm b 65535 f w hBm hc hown K hK (by omega)))
  have Hcol := hide hcol
  have HK := hide hK
  clear hcol hown hK
  go_enter Tryz.func26, Tryz.ntmps26
  go_wp2_with fail
  refine Hcol.out.mono ?_
  rintro e w1 ⟨v, ss, rfl, hS, hrow, hnil, hb⟩
  have hm1 : Mod [] w w1 := Mod.of_below hb
  rcases hrow.2 with ⟨rfl, hz⟩ | ⟨g, cap, cur, rfl, hbase, hgb, r1, r2, r3, r4⟩
  · have hss : ss = [] := List.eq_nil_of_length_eq_zero hz
    subst hss
    go_wp2_with fail
    refine (sort_nil _).mono ?_
    rintro e w2 ⟨rfl, rfl⟩
    go_wp2_with fail
    go_ret
    exact ⟨_, [], rfl, hS, List.Pairwise.nil, hrow, hm1⟩
  · obtain ⟨R, hr, _, h1, h2, h3, hl⟩ := own_row hrow
    have hlen : ss.length < 65536 := by have := nodup_le ss K hS.1 (fun x hx => HK.out x ((hS.2 x).1 hx)); omega
    have hsz : ss.toArray.size = ss.length := by simp
    clear hrow hgb r1 r2 r3 r4 hnil
    go_wp2_with fail
    refine (sort_u64 w1 g cap ss.toArray R hr (by rw [hsz]; exact hlen) ss.length hsz).mono ?_
    rintro e w2 ⟨rfl, d', hp, hs, hr2, hm2⟩
    obtain ⟨k1, k2⟩ := sorted_lt rfl hS.1 hp hs
    have hd : d'.size = ss.length := by rw [hp.1]; exact hsz
    have hown := row_own (n := ss.length) (cap := cap) hr2 hbase hd h1 h2 (by simpa using h3)
    have hdl : d'.toList.length = ss.length := by simpa using hd
    have hown' : w2.ownsRow w.heap.size 22 1 (.slice (some ⟨g, 0, none⟩) ss.length cap) d'.toList.length (d'.toList.map U) := by rw [hdl]; exact hown
    go_wp2_with fail
    go_ret
    exact ⟨_, d'.toList, rfl, hS.perm k1, k2, hown', hm1.trans hm2 (by simpa using hbase)⟩
/-- a map's size, by the keys that are in it -/
theorem IMap.len {P : Program} {w : World} {b : Nat} {q : IntKind} {f : Int → Option Value} {T k v : TypeId} (h : IMap w b q f) (ht : P.underlying T = some (.map k v)) (ty : TypeId) (K : List Int) (hn : K.Nodup) (hK : ∀ x, x ∈ K ↔ (f x).isSome = true) :
    (Builtin.len_ #[T] ty #[.map (some b)]).run P w = .ok (.int .i64 (K.length : Int)) w := by
  obtain ⟨es, clock, hb, F, hf⟩ := h
  have key : ∃ ks : List Int, ks.Nodup ∧ ks.length = es.size ∧ ∀ x, x ∈ ks ↔ (entAt q es.toList x).isSome = true := by
    refine ⟨es.toList.map fun e => match e.key with | .int _ y => y | _ => 0, ?_, by simp, fun x => ?_⟩
    · rw [List.Nodup, List.pairwise_map]
      refine F.apart.imp_of_mem ?_
      intro a c ha hc hne he
      obtain ⟨y, hy⟩ := F.keys a ha
      obtain ⟨z, hz⟩ := F.keys c hc
      rw [hy, hz] at he hne
      simp only at he
      exact hne (by rw [he])
    · rw [List.mem_map]
      unfold entAt
      rw [Option.isSome_map, List.find?_isSome]
      constructor
      · rintro ⟨e, he, hx⟩
        obtain ⟨y, hy⟩ := F.keys e he
        rw [hy] at hx
        exact ⟨e, he, keyIs_iff.2 (by rw [hy]; simp only at hx; rw [hx])⟩
      · rintro ⟨e, he, hx⟩
        exact ⟨e, he, by rw [keyIs_iff.1 hx]⟩
  obtain ⟨ks, k1, k2, k3⟩ := key
  have e1 : es.size = K.length := by
    rw [← k2]
    exact Nat.le_antisymm (nodup_le _ _ k1 fun x hx => (hK x).2 (by rw [hf x]; exact (k3 x).1 hx)) (nodup_le _ _ hn fun x hx => (k3 x).2 (by rw [← hf x]; exact (hK x).1 hx))
  simp [Builtin.len_, run_underlying ht, MapKept.run_getObj_map hb, goInt, Result.andThen, e1]
/-- the ids of a set's streams, as its map has them -/
def Ss.ks (s : Ss) : List Int := s.l.map fun x => (x.id : Int)
theorem Ss.mem_ks (s : Ss) (x : Int) : x ∈ s.ks ↔ (s.look x).isSome = true := by
  unfold Ss.ks Ss.look
  rw [Option.isSome_map, List.find?_isSome, List.mem_map]
  simp only [decide_eq_true_eq]
theorem Ss.ks_len (s : Ss) : s.ks.length = s.l.length := by unfold Ss.ks; rw [List.length_map]
theorem Ss.WF.ks {s : Ss} (h : s.WF) : s.ks.Nodup := by
  have := h.ids
  unfold Ss.ks
  rw [List.Nodup, List.pairwise_map] at *
  exact this.imp fun hne he => hne (by omega)
theorem stlen {P : Program} {w : World} {sb : Nat} {s : Ss} {T k v : TypeId} (h : SBox w sb s) (hw : s.WF) (ht : P.underlying T = some (.map k v)) (ty : TypeId) :
    (Builtin.len_ #[T] ty #[.map (some s.mb)]).run P w = .ok (.int .i64 (s.l.length : Int)) w := by
  rw [h.map.len ht ty s.ks hw.ks s.mem_ks, s.ks_len]
/-- a set's ids, ascending -/
def Ss.Up (s : Ss) (ss : List Int) : Prop := ss.Pairwise (· < ·) ∧ ss.length = s.l.length ∧ ∀ x : Int, x ∈ ss ↔ ∃ y ∈ s.l, (y.id : Int) = x
set_option maxHeartbeats 2000000 in
theorem stids_any (w : World) (sb : Nat) (s : Ss) (h : SBox w sb s) (hw : s.WF) :
    Calls Tryz.prog 10 #[.pointer (some ⟨sb, 0, none⟩)] w fun e w' => ∃ (v : Value) (ss : List Int), e = .returned v ∧ s.Up ss ∧ w'.ownsRow w.heap.size 22 1 v ss.length (ss.map U) ∧ Mod [] w w' := by
  have s3 : w.cell? ⟨sb, 13, none⟩ = some (.map (some s.mb)) := h.blk.cell 13
  have hkeys : Calls Tryz.prog 27 _ w _ := callsIn_wide.1 (stkeys Fence.wide 5 trivial rfl (some s.mb) w)
  have hsd := stsorted (w.alloc (.cells #[.map (some s.mb)] 66)) w.heap.size s.mb s.look (by simp) (Blk.cell (Blk.new w _ _) 0) (h.map.mod ((Mod.refl [] w).alloc _) (by simp)) s.ks (fun x hx => (s.mem_ks x).2 hx) (by rw [s.ks_len]; have := hw.len; omega)
  have hw1 := hw.ks
  have HK := hide hkeys
  have HSD := hide hsd
  clear hkeys hsd
  have hm1 : Mod [] w (w.alloc (.cells #[.map (some s.mb)] 66)) := (Mod.refl [] w).alloc _
  go_enter Tryz.func10, Tryz.ntmps10
  go_wp2_with fail
  refine HK.out.mono ?_
  rintro e w1 ⟨rfl, rfl⟩
  go_wp2_with fail
  refine HSD.out.mono ?_
  rintro e w2 ⟨v, ss, rfl, hS, hup, hrow, hm2⟩
  go_wp2_with fail
  go_ret
  refine ⟨_, ss, rfl, ⟨hup, ?_, fun x => ?_⟩, ?_, hm1.trans hm2 (by simp)⟩
  · rw [← s.ks_len]
    exact Nat.le_antisymm (nodup_le _ _ hS.1 fun x hx => (s.mem_ks x).2 ((hS.2 x).1 hx)) (nodup_le _ _ hw1 fun x hx => (hS.2 x).2 ((s.mem_ks x).1 hx))
  · rw [hS.2 x, ← s.mem_ks x]
    unfold Ss.ks
    rw [List.mem_map]
  · rcases hrow.2 with h0 | ⟨g, cap, cur, hv, hb, hr⟩
    · exact ⟨hrow.1, .inl h0⟩
    · exact ⟨hrow.1, .inr ⟨g, cap, cur, hv, by simp at hb; omega, hr⟩⟩
end Go.Proofs.YtjdfemfobcjecaaGreat

/-
  A region's order, checked by one look at each pair of its operations.
-/
namespace Go.Proofs.YtjdfemfobcjecaaGreat
open Go.RowKit

def regChk (md : Region.Mode) (ops : Array Oper) : List Oper → Nat → Bool
  | [], _ => true
  | o :: l, k => (o.after.toList.all fun e => !Region.binds md e || Nat.blt e.on k) && (l.all fun oj => oj.after.any (fun e => Region.binds md e && e.on == k) || o.apart ops oj) && regChk md ops l (k + 1)

theorem lexFrom_chk {md : Region.Mode} {ops : Array Oper} : ∀ (l : List Oper) (k : Nat) (listed : Array Bool), (∀ j, l[j]? = ops[k + j]?) → k + l.length = ops.size → listed.size = ops.size →
    (∀ i, i < ops.size → listed[i]? = some (decide (i < k))) → regChk md ops l k = true → Region.lexFrom md ops l.length k listed = true
  | [], k, listed, _, hk, hs, hp, _ => by
    simp only [List.length_nil, Region.lexFrom, List.isEmpty_iff, Region.ready, List.filter_eq_nil_iff, List.mem_range]
    intro i hi
    have h1 := hp i hi
    have h2 : i < k := by simp at hk; omega
    rw [decide_eq_true h2] at h1
    rw [Array.getD_eq_getD_getElem?, h1]
    simp
  | o :: l, k, listed, hl, hk, hs, hp, hc => by
    simp only [regChk, Bool.and_eq_true] at hc
    obtain ⟨⟨c1, c2⟩, c3⟩ := hc
    have hkn : k < ops.size := by simp at hk; omega
    have h0 : ops[k]? = some o := by have := hl 0; simpa using this.symm
    simp only [List.length_cons, Region.lexFrom, Bool.and_eq_true]
    refine ⟨⟨?_, ?_⟩, ?_⟩
    · rw [List.contains_iff_mem]
      simp only [Region.ready, List.mem_filter, List.mem_range]
      refine ⟨hkn, ?_⟩
      have h1 := hp k hkn
      rw [decide_eq_false (Nat.lt_irrefl k)] at h1
      rw [Array.getD_eq_getD_getElem?, h1, h0]
      simp only [Option.getD_some, Bool.not_false, Bool.true_and, Option.map_some]
      rw [Array.all_eq_true_iff_forall_mem]
      intro e he
      have := List.all_eq_true.1 c1 e (by simpa using he)
      rw [Bool.or_eq_true] at this ⊢
      rcases this with h | h
      · exact .inl h
      · right
        have hlt : e.on < k := by simpa using h
        have h2 := hp e.on (by omega)
        rw [decide_eq_true hlt] at h2
        rw [Array.getD_eq_getD_getElem?, h2]
        rfl
    · unfold Region.free
      rw [h0]
      simp only [List.all_eq_true, List.mem_range]
      intro j hj
      have h1 := hp j hj
      by_cases hjk : j = k
      · simp [hjk]
      · by_cases hlt : j < k
        · rw [decide_eq_true hlt] at h1
          rw [Array.getD_eq_getD_getElem?, h1]
          simp
        · have hoj : ∃ oj, ops[j]? = some oj := ⟨_, Array.getElem?_eq_getElem hj⟩
          obtain ⟨oj, hoj⟩ := hoj
          have h2 := hl (j - k)
          rw [show k + (j - k) = j by omega, hoj, show j - k = (j - k - 1) + 1 by omega, List.getElem?_cons_succ] at h2
          have h3 := List.all_eq_true.1 c2 oj (List.mem_of_getElem? h2)
          rw [hoj]
          simp only [Bool.or_eq_true] at h3 ⊢
          right
          exact h3
    · refine lexFrom_chk l (k + 1) _ (fun j => ?_) (by simp at hk; omega) (by simpa using hs) (fun i hi => ?_) c3
      · have := hl (j + 1)
        rw [List.getElem?_cons_succ] at this
        rw [this]
        congr 1
        omega
      · rw [Array.getElem?_setIfInBounds]
        by_cases e : k = i
        · subst e
          rw [if_pos rfl, if_pos (by omega), decide_eq_true (by omega)]
        · rw [if_neg e, hp i hi]
          congr 1
          rw [Bool.eq_iff_iff]
          simp only [decide_eq_true_eq]
          omega
theorem lexB_chk {md : Region.Mode} {l : List Oper} (hs : Region.noSelect l.toArray = true) (h : regChk md l.toArray l 0 = true) : Region.lexB md l.toArray = true := by
  unfold Region.lexB
  rw [hs, Bool.true_and]
  have := lexFrom_chk (md := md) (ops := l.toArray) l 0 (Array.replicate l.toArray.size false) (fun j => by simp) (by simp) (by simp) (fun i hi => by simp at hi; simp [hi]) h
  simpa using this
open Go.Sort in
/-- the region of a drawn order whose callees lay blocks of their own, the order checked so -/
theorem wp_region_below {P : Program} {id : Nat} {Q : Exit → Act → World → Prop} {a : Act} {w : World} {l : List Oper} (hm : P.follows .mixedOrders = true) (hs : Region.noSelect l.toArray = true) (hB : regChk .any l.toArray l 0 = true)
    (h : wpQuiet P l.toArray (fun w' => ∃ p : Regrown, w' = grow (redrawn w p.d) p.os) (fun a' => ∀ w', (∃ p : Regrown, w' = grow (redrawn w p.d) p.os) → Q .normal a' w') l a) : (Code.region id l.toArray true).wp P Q a w :=
  wp_region_quiet_below hm (lexB_chk hs hB) h
end Go.Proofs.YtjdfemfobcjecaaGreat

/-
  streams: Open.
-/
namespace Go.Proofs.YtjdfemfobcjecaaGreat
open Go.RowKit Go.Sort
set_option linter.unusedVariables false
set_option linter.unusedSimpArgs false
theorem Ss.made_op (s : Ss) (x : St) (k : Nat) (hk : k < 4) : (s.made x).op k = if x.id % 4 = k then s.op k + 1 else s.op k := by
  unfold Ss.made Ss.op
  match k, hk with
  | 0, _ => rfl
  | 1, _ => rfl
  | 2, _ => rfl
  | 3, _ => rfl
theorem Ss.op_cell (s : Ss) {k : Nat} (hk : k < 4) : s.cells[14 + k]? = some (.int .u64 (s.op k : Int)) := by
  unfold Ss.op Ss.cells
  match k, hk with
  | 0, _ => rfl
  | 1, _ => rfl
  | 2, _ => rfl
  | 3, _ => rfl
theorem Ss.WF.op_le {s : Ss} (h : s.WF) (k : Nat) : s.op k ≤ s.l.length := by
  rw [h.cnt]
  unfold Ss.op
  split
  · omega
  · split
    · omega
    · split <;> omega
theorem Ss.WF.next {s : Ss} (h : s.WF) {id : Nat} (hid : id = 4 * s.op (id % 4) + id % 4) : ∀ y ∈ s.l, y.id ≠ id := by
  intro y hy e
  have := h.low y hy
  rw [e] at this
  omega
theorem Ss.way_le {s : Ss} (h : s.WF) (id : Nat) : s.wayIn id ≤ mvar ∧ s.wayOut id ≤ mvar := by
  have h1 := h.own
  have h2 := h.other
  unfold Ss.wayIn Ss.wayOut
  split
  · exact ⟨h1.un, h2.un⟩
  · split
    · exact ⟨h1.bl, h2.br⟩
    · exact ⟨h1.br, h2.bl⟩
theorem Ss.WF.made {s : Ss} (h : s.WF) {id xb ib im ob : Nat} (hid : id = 4 * s.op (id % 4) + id % 4) (hl : s.l.length < 100) : (s.made (s.newSt id xb ib im ob)).WF := by
  have hopl := h.op_le (id % 4)
  have h4 : id % 4 < 4 := Nat.mod_lt _ (by omega)
  have hn := h.next hid
  obtain ⟨x, hx⟩ : ∃ x, s.newSt id xb ib im ob = x := ⟨_, rfl⟩
  have e1 : x.id = id := by rw [← hx]; rfl
  have e2 : x.inn.isSome = s.takes id := by rw [← hx]; unfold Ss.newSt; cases s.takes id <;> rfl
  have e3 : x.out.isSome = s.sends id := by rw [← hx]; unfold Ss.newSt; cases s.sends id <;> rfl
  have e4 : x.top = 0 := by rw [← hx]; unfold Ss.newSt St.top; cases s.takes id <;> rfl
  have e5 : x.sent = 0 := by rw [← hx]; unfold Ss.newSt St.sent; cases s.sends id <;> rfl
  have e6 : x.taken = 0 := by rw [← hx]; unfold Ss.newSt St.taken; cases s.takes id <;> rfl
  have e7 : x.first ≤ mvar := by
    rw [← hx]; unfold Ss.newSt; simp only
    split
    · exact (Ss.way_le h id).1
    · exact Nat.zero_le _
  have e8 : x.stop = nd0 ∧ x.rst = nd0 ∧ x.final = 0 := by rw [← hx]; exact ⟨rfl, rfl, rfl⟩
  have e9 : x.raise = false := by rw [← hx]; rfl
  rw [hx]
  have hL : (s.made x).l = s.l ++ [x] := rfl
  have low := h.low
  have hv := h.have_
  refine ⟨h.side, h.own, h.other, ?_, fun y hy => ?_, fun k j hk hj => ?_, fun y hy => ?_, fun y hy => ?_, ?_, ?_, h.lim, ?_, ?_, h.sentl, ?_, fun y hy => ?_, fun y hy hr => ?_⟩
  · rw [hL, List.map_append, List.nodup_append]
    refine ⟨h.ids, by simp, fun a ha b hb e => ?_⟩
    simp only [List.map_cons, List.map_nil, List.mem_cons, List.not_mem_nil, or_false] at hb
    obtain ⟨y, hy, rfl⟩ := List.mem_map.1 ha
    exact hn y hy (by rw [e, hb, e1])
  · rw [hL, List.mem_append, List.mem_singleton] at hy
    rw [Ss.made_op _ _ _ (Nat.mod_lt _ (by omega)), e1]
    rcases hy with hy | rfl
    · have := low y hy
      split <;> omega
    · rw [e1, if_pos rfl]; omega
  · rw [Ss.made_op _ _ _ hk, e1] at hj
    rw [hL]
    by_cases hk' : id % 4 = k
    · rw [if_pos hk'] at hj
      by_cases hj' : j < s.op k
      · obtain ⟨y, hy, e⟩ := hv k j hk hj'
        exact ⟨y, List.mem_append.2 (.inl hy), e⟩
      · refine ⟨x, by simp, ?_⟩
        rw [e1, hid, hk']
        have : j = s.op k := by omega
        rw [this]
    · rw [if_neg hk'] at hj
      obtain ⟨y, hy, e⟩ := hv k j hk hj
      exact ⟨y, List.mem_append.2 (.inl hy), e⟩
  · rw [hL, List.mem_append, List.mem_singleton] at hy
    rcases hy with hy | rfl
    · exact h.inn y hy
    · rw [e2, e1]; rfl
  · rw [hL, List.mem_append, List.mem_singleton] at hy
    rcases hy with hy | rfl
    · exact h.out y hy
    · rw [e3, e1]; rfl
  · rw [hL, List.length_append]; simp; omega
  · rw [hL, List.length_append, h.cnt]
    unfold Ss.made
    rw [e1]
    simp only [List.length_cons, List.length_nil]
    generalize id % 4 = k at h4
    match k, h4 with
    | 0, _ => simp; omega
    | 1, _ => simp; omega
    | 2, _ => simp; omega
    | 3, _ => simp; omega
  · have := h.came
    unfold Ss.came at this ⊢
    rw [hL, List.map_append, List.sum_append]
    simp only [List.map_cons, List.map_nil, List.sum_cons, List.sum_nil, e4]
    exact this
  · have := h.sent
    rw [hL, List.map_append, List.sum_append]
    simp only [List.map_cons, List.map_nil, List.sum_cons, List.sum_nil, e5]
    exact this
  · have := h.read
    rw [hL, List.map_append, List.sum_append]
    simp only [List.map_cons, List.map_nil, List.sum_cons, List.sum_nil, e6]
    exact this
  · rw [hL, List.mem_append, List.mem_singleton] at hy
    rcases hy with hy | rfl
    · exact h.vals y hy
    · have := h.len
      refine ⟨by rw [e1, hid]; unfold mvar; omega, e7, by rw [e8.1]; unfold nd0 mvar; simp, by rw [e8.2.1]; unfold nd0; simp, by rw [e8.2.2]; omega⟩
  · rw [hL, List.mem_append, List.mem_singleton] at hy
    rcases hy with hy | rfl
    · exact h.rais y hy hr
    · rw [e9] at hr; cases hr
/-- what Open does -/
def Ss.Opens (s : Ss) (k n e : Nat) (s' : Ss) : Prop :=
  (s.other.count k ≤ s.op k ∧ n = 0 ∧ e = 21 ∧ s' = s) ∨ (s.op k < s.other.count k ∧ 100 ≤ s.l.length ∧ n = 0 ∧ e = 4 ∧ s' = s) ∨
  (s.op k < s.other.count k ∧ s.l.length < 100 ∧ n = s.op k * 4 + k ∧ e = 0 ∧ ∃ xb ib im ob, s' = s.made (s.newSt n xb ib im ob))
theorem Ss.WF.opens {s s' : Ss} {k n e : Nat} (h : s.WF) (hk : k < 4) (ho : s.Opens k n e s') : s'.WF := by
  rcases ho with ⟨_, _, _, rfl⟩ | ⟨_, _, _, _, rfl⟩ | ⟨_, h2, h3, _, xb, ib, im, ob, rfl⟩
  · exact h
  · exact h
  · have e : n % 4 = k := by omega
    exact h.made (by rw [e]; omega) h2
def kindOf (s : Ss) (uni : Bool) : Nat := if uni then s.side + 2 else s.side
theorem or2 (n : Nat) (h : n ≤ 1) : bits .or .u64 (n : Int) 2 = ((n + 2 : Nat) : Int) := by
  have := bits_or_u64_nat n 2 (by omega) (by omega)
  have e : n ||| 2 = n + 2 := by
    rcases Nat.le_one_iff_eq_zero_or_eq_one.1 h with rfl | rfl <;> rfl
  rw [e] at this
  exact this
set_option maxRecDepth 100000 in
set_option maxHeartbeats 8000000 in
theorem stopen_any (w : World) (sb : Nat) (s : Ss) (h : SBox w sb s) (hw : s.WF) (uni : Bool) :
    Calls Tryz.prog 12 #[.pointer (some ⟨sb, 0, none⟩), .bool uni] w fun e w' => ∃ n c s', e = .returned (.tuple #[.int .u64 (n : Nat), .int .i64 (c : Nat)]) ∧ s.Opens (kindOf s uni) n c s' ∧ SStep w sb s s' w' := by
  have HB := hide h
  have hsd := hw.side
  have hsl : sb < w.heap.size := h.blk.lt
  have s0 : w.cell? ⟨sb, 0, none⟩ = some (.int .u64 (s.side : Int)) := h.blk.cell 0
  have o2 := or2 s.side hsd
  obtain ⟨k, hk⟩ : ∃ k, kindOf s uni = k := ⟨_, rfl⟩
  have hk4 : k < 4 := by rw [← hk]; unfold kindOf; split <;> omega
  obtain ⟨op, hop⟩ : ∃ op, s.op k = op := ⟨_, rfl⟩
  obtain ⟨ct, hct⟩ : ∃ ct, s.other.count k = ct := ⟨_, rfl⟩
  obtain ⟨ln, hln⟩ : ∃ ln, s.l.length = ln := ⟨_, rfl⟩
  have hopl : op ≤ 100 := by rw [← hop]; exact Nat.le_trans (hw.op_le k) hw.len
  have hctl : ct ≤ 1152921504606846976 := by
    rw [← hct]
    unfold Lm.count
    split
    · exact hw.other.bidis
    · exact hw.other.unis
  have hlnl : ln ≤ 100 := by rw [← hln]; exact hw.len
  have HW := hide hw
  have HK := hide hk
  have HOp := hide hop
  have HCt := hide hct
  have HLn := hide hln
  have hlen := fun W (m : Mod [] w W) (ty : TypeId) => stlen (P := Tryz.prog) (T := 66) (h.new m) hw Tryz.underlying66 ty
  have HLen : Hid (∀ W, Mod [] w W → ∀ ty, (Builtin.len_ #[66] ty #[.map (some s.mb)]).run Tryz.prog W = .ok (.int .i64 (ln : Int)) W) := hide (fun W m ty => by rw [← hln]; exact hlen W m ty)
  have so : w.cell? ⟨sb, 14 + k, none⟩ = some (.int .u64 (op : Int)) := by
    rw [h.blk.cell, ← hop]
    exact s.op_cell hk4
  have v7 : w.cell? ⟨sb, 7, none⟩ = some (.int .u64 (s.other.data : Int)) := h.blk.cell 7
  have v8 : w.cell? ⟨sb, 8, none⟩ = some (.int .u64 (s.other.bl : Int)) := h.blk.cell 8
  have v9 : w.cell? ⟨sb, 9, none⟩ = some (.int .u64 (s.other.br : Int)) := h.blk.cell 9
  have v10 : w.cell? ⟨sb, 10, none⟩ = some (.int .u64 (s.other.un : Int)) := h.blk.cell 10
  have v11 : w.cell? ⟨sb, 11, none⟩ = some (.int .u64 (s.other.bidis : Int)) := h.blk.cell 11
  have v12 : w.cell? ⟨sb, 12, none⟩ = some (.int .u64 (s.other.unis : Int)) := h.blk.cell 12
  have v13 : w.cell? ⟨sb, 13, none⟩ = some (.map (some s.mb)) := h.blk.cell 13
  have cc : ∀ d os, Calls Tryz.prog 35 #[s.other.val, .int .u64 (k : Int)] (grow (redrawn w d) os) fun e0 w'' => e0 = .returned (.int .u64 (ct : Int)) ∧ ∃ p : Regrown, w'' = grow (redrawn w p.d) p.os := fun d os => Calls.regrown_of ((stcount_any _ s.other k (by omega)).mono fun _ _ hh => ⟨by rw [hh.1, hct], hh.2.below (Nat.le_refl _) (by simp)⟩)
  have CC := hide cc
  have hq1 : op * 4 + k = 4 * s.op ((op * 4 + k) % 4) + (op * 4 + k) % 4 := by
    have e : (op * 4 + k) % 4 = k := by omega
    rw [e, hop]; omega
  have hq2 : s.op ((op * 4 + k) % 4) ≤ 1000 := by
    have e : (op * 4 + k) % 4 = k := by omega
    rw [e, hop]; omega
  have HMk := hide (fun (W : World) (m : Mod [] w W) (hc : ln < 100) => stmake_any W sb s (h.new m) (op * 4 + k) (by omega) (hw.next hq1) hq2 (Ss.way_le hw _).1 (Ss.way_le hw _).2 (by
    have e1 : (op * 4 + k) % 4 / 2 = k / 2 := by omega
    have e2 : (op * 4 + k) % 2 = k % 2 := by omega
    right
    unfold Ss.sends
    rw [e1, e2, ← hk]
    unfold kindOf
    split
    · have : (s.side + 2) % 2 = s.side := by omega
      rw [this]; simp
    · have : s.side / 2 = 0 := by omega
      rw [this]; simp))
  have k0 : (0 : Int) ≤ (k : Int) := by omega
  have ki : (k : Int) < 4 := by omega
  unfold Lm.val at CC
  have yo := cell_regrown so
  have y7 := cell_regrown v7
  have y8 := cell_regrown v8
  have y9 := cell_regrown v9
  have y10 := cell_regrown v10
  have y11 := cell_regrown v11
  have y12 := cell_regrown v12
  clear h hw hk hop hct hln hlen cc hq1 hq2
  cases uni with
  | false =>
    have e0 : s.side = k := HK.out
    rw [e0] at s0
    go_enter Tryz.func12, Tryz.ntmps12
    go_wp2_with fail
    refine wp_region_below (by kernel_rfl) (by kernel_rfl) (by kernel_rfl) ?_
    repeat (go_big_quiet_step (with_reducible exact CC.out _ _))
    refine wpQuiet_nil ?_
    intro _ hw'
    obtain ⟨⟨dq, osq⟩, hw''⟩ := hw'
    subst hw''
    have hmd : Mod [] w (grow (redrawn w dq) osq) := Mod.of_below (F := []) (below_regrown w dq osq)
    have HMd := hide hmd
    have u13 : (grow (redrawn w dq) osq).cell? ⟨sb, 13, none⟩ = some (.map (some s.mb)) := (HB.out.new hmd).blk.cell 13
    have uo : (grow (redrawn w dq) osq).cell? ⟨sb, 14 + k, none⟩ = some (.int .u64 (op : Int)) := by rw [(HB.out.new hmd).blk.cell, ← HOp.out]; exact s.op_cell hk4
    have uln := HLen.out _ hmd
    obtain ⟨wx, hwx⟩ : ∃ wx, grow (redrawn w dq) osq = wx := ⟨_, rfl⟩
    rw [hwx] at u13 uo HMd uln ⊢
    have hBx := HB.out.new HMd.out
    clear hwx hmd
    by_cases h1 : ct ≤ op
    · have d1 : decide ((op : Int) ≥ (ct : Int)) = true := decide_eq_true (by omega)
      go_wp2_with fail
      go_ret2
      exact ⟨0, 21, s, rfl, by rw [HK.out]; exact .inl ⟨by rw [HCt.out, HOp.out]; exact h1, rfl, rfl, rfl⟩, SStep.refl HB.out HMd.out⟩
    · by_cases h2 : 100 ≤ ln
      · go_wp2_with fail
        go_ret2
        exact ⟨0, 4, s, rfl, by rw [HK.out]; exact .inr (.inl ⟨by rw [HCt.out, HOp.out]; omega, by rw [HLn.out]; exact h2, rfl, rfl, rfl⟩), SStep.refl HB.out HMd.out⟩
      · have HMk2 := hide (HMk.out _ HMd.out (by omega))
        go_wp2_with fail
        refine HMk2.out.mono ?_
        rintro e w3 ⟨rfl, xb, ib, im, ob, hst⟩
        go_wp2_with fail
        go_ret2
        exact ⟨op * 4 + k, 0, _, rfl, by rw [HK.out]; exact .inr (.inr ⟨by rw [HCt.out, HOp.out]; omega, by rw [HLn.out]; omega, by rw [HOp.out], rfl, xb, ib, im, ob, rfl⟩), (SStep.refl HB.out HMd.out).trans hst⟩
  | true =>
    have e0 : s.side + 2 = k := HK.out
    rw [e0] at o2
    go_enter Tryz.func12, Tryz.ntmps12
    go_wp2_with fail
    refine wp_region_below (by kernel_rfl) (by kernel_rfl) (by kernel_rfl) ?_
    repeat (go_big_quiet_step (with_reducible exact CC.out _ _))
    refine wpQuiet_nil ?_
    intro _ hw'
    obtain ⟨⟨dq, osq⟩, hw''⟩ := hw'
    subst hw''
    have hmd : Mod [] w (grow (redrawn w dq) osq) := Mod.of_below (F := []) (below_regrown w dq osq)
    have HMd := hide hmd
    have u13 : (grow (redrawn w dq) osq).cell? ⟨sb, 13, none⟩ = some (.map (some s.mb)) := (HB.out.new hmd).blk.cell 13
    have uo : (grow (redrawn w dq) osq).cell? ⟨sb, 14 + k, none⟩ = some (.int .u64 (op : Int)) := by rw [(HB.out.new hmd).blk.cell, ← HOp.out]; exact s.op_cell hk4
    have uln := HLen.out _ hmd
    obtain ⟨wx, hwx⟩ : ∃ wx, grow (redrawn w dq) osq = wx := ⟨_, rfl⟩
    rw [hwx] at u13 uo HMd uln ⊢
    have hBx := HB.out.new HMd.out
    clear hwx hmd
    by_cases h1 : ct ≤ op
    · have d1 : decide ((op : Int) ≥ (ct : Int)) = true := decide_eq_true (by omega)
      go_wp2_with fail
      go_ret2
      exact ⟨0, 21, s, rfl, by rw [HK.out]; exact .inl ⟨by rw [HCt.out, HOp.out]; exact h1, rfl, rfl, rfl⟩, SStep.refl HB.out HMd.out⟩
    · by_cases h2 : 100 ≤ ln
      · go_wp2_with fail
        go_ret2
        exact ⟨0, 4, s, rfl, by rw [HK.out]; exact .inr (.inl ⟨by rw [HCt.out, HOp.out]; omega, by rw [HLn.out]; exact h2, rfl, rfl, rfl⟩), SStep.refl HB.out HMd.out⟩
      · have HMk2 := hide (HMk.out _ HMd.out (by omega))
        go_wp2_with fail
        refine HMk2.out.mono ?_
        rintro e w3 ⟨rfl, xb, ib, im, ob, hst⟩
        go_wp2_with fail
        go_ret2
        exact ⟨op * 4 + k, 0, _, rfl, by rw [HK.out]; exact .inr (.inr ⟨by rw [HCt.out, HOp.out]; omega, by rw [HLn.out]; omega, by rw [HOp.out], rfl, xb, ib, im, ob, rfl⟩), (SStep.refl HB.out HMd.out).trans hst⟩
end Go.Proofs.YtjdfemfobcjecaaGreat

/-
  streams: one stream's inbox, outbox or cells turned, as the set's step.
-/
namespace Go.Proofs.YtjdfemfobcjecaaGreat
open Go.RowKit
set_option linter.unusedVariables false
set_option linter.unusedSimpArgs false
section
variable {w w' : World} {sb : Nat} {s : Ss} {x x' : St}
theorem ofoot_lt {b : Nat} {o : Ob} {dv sv : Value} (h : OBox w b o dv sv) : ∀ k ∈ ofoot b dv sv, k < w.heap.size := by
  have own : ∀ {v : Value} {t : TypeId} {base size n : Nat} {xs : List Value}, w.ownsRow base t size v n xs → ∀ k, v.ownBlock = some k → k < w.heap.size := by
    intro v t base size n xs ho k hk
    rcases ho.2 with ⟨rfl, _⟩ | ⟨g, cap, cur, rfl, hb, hg, _⟩
    · cases hk
    · simp [Value.ownBlock] at hk
      subst hk
      exact Blk.lt hg
  intro k hk
  simp only [ofoot, List.mem_cons, List.mem_append, Option.mem_toList, Option.mem_def] at hk
  rcases hk with rfl | hk | hk
  · exact h.blk.lt
  · exact own h.dat k hk
  · exact own h.sta k hk
def St.withOut (x : St) (b : Nat) (dv sv : Value) (o : Ob) : St := { x with out := some (b, dv, sv, o) }
def St.withIn (x : St) (b m : Nat) (o : Ib) : St := { x with inn := some (b, m, o) }
theorem SBox.outStep (h : SBox w sb s) (hn : (s.l.map St.id).Nodup) (hx : x ∈ s.l) {b : Nat} {dv sv : Value} {o o' : Ob} (hxo : x.out = some (b, dv, sv, o)) (ho : OStep w b dv sv o' w') : ∃ dv' sv', SStep w sb s (s.put (x.withOut b dv' sv' o')) w' := by
  obtain ⟨dv', sv', hb', m, hf⟩ := ho
  have hX := h.all x hx
  have hofo : x.ofoot = ofoot b dv sv := by unfold St.ofoot; rw [hxo]
  have hof' : (x.withOut b dv' sv' o').ofoot = ofoot b dv' sv' := rfl
  have hif' : (x.withOut b dv' sv' o').ifoot = x.ifoot := rfl
  have hxl : x.xb < w.heap.size := hX.blk.lt
  have hil : ∀ k ∈ x.ifoot, k < w.heap.size := fun k hk => h.lt x hx k (by simp [St.foot, hk])
  refine ⟨dv', sv', h.upd hn hx m (fun k hk => ?_) ⟨?_, fun b2 m2 o2 e => ?_, fun b2 dv2 sv2 o2 e => ?_, ?_, ?_, ?_⟩ rfl rfl (fun k hk => ?_) (fun k hk => ?_)⟩
  · simp only [St.foot, hofo, List.mem_cons, List.mem_append]; exact .inr (.inr hk)
  · have : (x.withOut b dv' sv' o').cells = x.cells := by unfold St.cells St.outV; rw [hxo]; rfl
    rw [this]
    exact m.blk hX.blk (by rw [← hofo]; exact hX.xo)
  · have e' : x.inn = some (b2, m2, o2) := e
    refine (hX.inn b2 m2 o2 e').mod m ?_ ?_
    · rw [← hofo]; exact hX.io _ (by simp [St.ifoot, e'])
    · rw [← hofo]; exact hX.io _ (by simp [St.ifoot, e'])
  · cases e; exact hb'
  · exact hX.xi
  · rw [hof']; intro hk
    rcases hf _ hk with h1 | h1
    · exact hX.xo (by rw [hofo]; exact h1)
    · exact absurd hxl (by show ¬ x.xb < _; have : w.heap.size ≤ x.xb := h1; omega)
  · rw [hof']; intro k hk hk'
    rw [hif'] at hk
    rcases hf _ hk' with h1 | h1
    · exact hX.io k hk (by rw [hofo]; exact h1)
    · have := hil k hk; omega
  · simp only [St.foot, hof', hif', List.mem_cons, List.mem_append] at hk
    rcases hk with rfl | hk | hk
    · exact .inl (by simp [St.foot, St.withOut])
    · exact .inl (by simp [St.foot, hk])
    · rcases hf _ hk with h1 | h1
      · exact .inl (by simp only [St.foot, hofo, List.mem_cons, List.mem_append]; exact .inr (.inr h1))
      · exact .inr h1
  · simp only [St.foot, hof', hif', List.mem_cons, List.mem_append] at hk
    rcases hk with rfl | hk | hk
    · exact Nat.lt_of_lt_of_le hxl m.size
    · exact Nat.lt_of_lt_of_le (hil k hk) m.size
    · exact ofoot_lt hb' k hk
theorem SBox.inStep (h : SBox w sb s) (hn : (s.l.map St.id).Nodup) (hx : x ∈ s.l) {b m : Nat} {o o' : Ib} (hxi : x.inn = some (b, m, o)) (ho : IStep w b m o' w') : ∃ m', SStep w sb s (s.put (x.withIn b m' o')) w' := by
  obtain ⟨m', hb', hm, hf⟩ := ho
  have hX := h.all x hx
  have hifo : x.ifoot = [b, m] := by unfold St.ifoot; rw [hxi]
  have hif' : (x.withIn b m' o').ifoot = [b, m'] := rfl
  have hof' : (x.withIn b m' o').ofoot = x.ofoot := rfl
  have hxl : x.xb < w.heap.size := hX.blk.lt
  have hol : ∀ k ∈ x.ofoot, k < w.heap.size := fun k hk => h.lt x hx k (by simp [St.foot, hk])
  have hxi1 : x.xb ≠ b ∧ x.xb ≠ m := by have := hX.xi; rw [hifo] at this; simpa using this
  refine ⟨m', h.upd hn hx hm (fun k hk => ?_) ⟨?_, fun b2 m2 o2 e => ?_, fun b2 dv2 sv2 o2 e => ?_, ?_, ?_, ?_⟩ rfl rfl (fun k hk => ?_) (fun k hk => ?_)⟩
  · simp only [St.foot, hifo, List.mem_cons, List.mem_append]; simp at hk; rcases hk with rfl | rfl <;> simp
  · have : (x.withIn b m' o').cells = x.cells := by unfold St.cells St.inV; rw [hxi]; rfl
    rw [this]
    exact hm.blk hX.blk (by rw [← hifo]; exact hX.xi)
  · cases e; exact hb'
  · have e' : x.out = some (b2, dv2, sv2, o2) := e
    refine (hX.out b2 dv2 sv2 o2 e').mod hm (fun k hk hkm => ?_)
    exact hX.io k (by rw [hifo]; exact hkm) (by unfold St.ofoot; rw [e']; exact hk)
  · rw [hif']
    have : x.xb ≠ m' := by rcases hf with rfl | hf; exact hxi1.2; omega
    simp [St.withIn, hxi1.1, this]
  · exact hX.xo
  · rw [hif', hof']
    intro k hk hk'
    simp at hk
    rcases hk with rfl | rfl
    · exact hX.io _ (by rw [hifo]; simp) hk'
    · rcases hf with rfl | hf
      · exact hX.io _ (by rw [hifo]; simp) hk'
      · have := hol _ hk'; omega
  · simp only [St.foot, hof', hif', List.mem_cons, List.mem_append, List.not_mem_nil, or_false] at hk
    rcases hk with rfl | (rfl | rfl) | hk
    · exact .inl (by simp [St.foot, St.withIn])
    · exact .inl (by simp [St.foot, hifo])
    · rcases hf with rfl | hf
      · exact .inl (by simp [St.foot, hifo])
      · exact .inr hf
    · exact .inl (by simp [St.foot, hk])
  · simp only [St.foot, hof', hif', List.mem_cons, List.mem_append, List.not_mem_nil, or_false] at hk
    rcases hk with rfl | (rfl | rfl) | hk
    · exact Nat.lt_of_lt_of_le hxl hm.size
    · exact hb'.blk.lt
    · exact hb'.mlt
    · exact Nat.lt_of_lt_of_le (hol k hk) hm.size
theorem SBox.cellStep (h : SBox w sb s) (hn : (s.l.map St.id).Nodup) (hx : x ∈ s.l) (hm : Mod [x.xb] w w') (hb : Blk w' x.xb 83 x'.cells) (hid : x'.id = x.id) (hxb : x'.xb = x.xb) (hi : x'.inn = x.inn) (ho : x'.out = x.out) : SStep w sb s (s.put x') w' := by
  have hX := h.all x hx
  have hf : x'.foot = x.foot := by unfold St.foot St.ifoot St.ofoot; rw [hi, ho, hxb]
  have hfi : x'.ifoot = x.ifoot := by unfold St.ifoot; rw [hi]
  have hfo : x'.ofoot = x.ofoot := by unfold St.ofoot; rw [ho]
  refine h.upd hn hx hm (fun k hk => ?_) ⟨by rw [hxb]; exact hb, fun b2 m2 o2 e => ?_, fun b2 dv2 sv2 o2 e => ?_, ?_, ?_, ?_⟩ hid hxb (fun k hk => .inl (hf ▸ hk)) (fun k hk => Nat.lt_of_lt_of_le (h.lt x hx k (hf ▸ hk)) hm.size)
  · simp at hk; subst hk; simp [St.foot]
  · rw [hi] at e
    refine (hX.inn b2 m2 o2 e).mod hm ?_ ?_
    · intro hk; simp at hk; exact hX.xi (by unfold St.ifoot; rw [e]; simp [hk])
    · intro hk; simp at hk; exact hX.xi (by unfold St.ifoot; rw [e]; simp [hk])
  · rw [ho] at e
    refine (hX.out b2 dv2 sv2 o2 e).mod hm (fun k hk hkm => ?_)
    simp at hkm
    exact hX.xo (by unfold St.ofoot; rw [e, ← hkm]; exact hk)
  · rw [hxb, hfi]; exact hX.xi
  · rw [hxb, hfo]; exact hX.xo
  · rw [hfi, hfo]; exact hX.io
theorem Ss.put_mem (hx : x ∈ s.l) (hid : x'.id = x.id) : x' ∈ (s.put x').l := by
  unfold Ss.put
  simp only [List.mem_map]
  exact ⟨x, hx, by rw [if_pos hid.symm]⟩
theorem Ss.put_ids (s : Ss) (x' : St) : (s.put x').l.map St.id = s.l.map St.id := by
  unfold Ss.put
  simp only [List.map_map]
  apply List.map_congr_left
  intro y hy
  simp only [Function.comp]
  split
  · next e => rw [e]
  · rfl
end
end Go.Proofs.YtjdfemfobcjecaaGreat

/-
  streams: named.
-/
namespace Go.Proofs.YtjdfemfobcjecaaGreat
open Go.RowKit Go.Sort
set_option linter.unusedVariables false
set_option linter.unusedSimpArgs false
/-- streams of a kind, made one after the other -/
inductive Fills (k : Nat) : Ss → Ss → Nat → Prop
  | none (s : Ss) : Fills k s s 0
  | more {s s' : Ss} {n : Nat} (h : Fills k s s' n) (xb ib im ob : Nat) : Fills k s (s'.made (s'.newSt (s'.op k * 4 + k) xb ib im ob)) (n + 1)
/-- what stays, and what is there then -/
structure Ss.Grew (s s' : Ss) (k n : Nat) : Prop where
  side : s'.side = s.side
  own : s'.own = s.own
  other : s'.other = s.other
  limit : s'.limit = s.limit
  raise : s'.raise = s.raise
  sent : s'.sent = s.sent
  read : s'.read = s.read
  mb : s'.mb = s.mb
  op : s'.op k = s.op k + n
  ops : ∀ j, j < 4 → j ≠ k → s'.op j = s.op j
  l : ∃ t, s'.l = s.l ++ t ∧ t.length = n ∧ ∀ y ∈ t, y.id % 4 = k ∧ y.id / 4 < s.op k + n ∧ y.top = 0 ∧ y.sent = 0 ∧ y.taken = 0 ∧ y.supp = 0 ∧ y = s.newSt y.id y.xb (y.inn.elim 0 (·.1)) (y.inn.elim 0 (·.2.1)) (y.out.elim 0 (·.1))
theorem newSt_own (s : Ss) (id xb ib im ob : Nat) : s.newSt id xb ib im ob = s.newSt id xb ((s.newSt id xb ib im ob).inn.elim 0 (·.1)) ((s.newSt id xb ib im ob).inn.elim 0 (·.2.1)) ((s.newSt id xb ib im ob).out.elim 0 (·.1)) := by
  unfold Ss.newSt
  cases s.takes id <;> cases s.sends id <;> rfl
theorem newSt_of {s s' : Ss} (h1 : s'.side = s.side) (h2 : s'.own = s.own) (h3 : s'.other = s.other) (id xb ib im ob : Nat) : s'.newSt id xb ib im ob = s.newSt id xb ib im ob := by
  unfold Ss.newSt Ss.takes Ss.sends Ss.wayIn Ss.wayOut Ss.mine
  rw [h1, h2, h3]
theorem newSt_zero (s : Ss) (id xb ib im ob : Nat) : (s.newSt id xb ib im ob).top = 0 ∧ (s.newSt id xb ib im ob).sent = 0 ∧ (s.newSt id xb ib im ob).taken = 0 ∧ (s.newSt id xb ib im ob).supp = 0 := by
  unfold Ss.newSt St.top St.sent St.taken St.supp
  cases s.takes id <;> cases s.sends id <;> exact ⟨rfl, rfl, rfl, rfl⟩
theorem Fills.grew {k : Nat} (hk : k < 4) {s s' : Ss} {n : Nat} (h : Fills k s s' n) : s.Grew s' k n := by
  induction h with
  | none => exact ⟨rfl, rfl, rfl, rfl, rfl, rfl, rfl, rfl, rfl, fun _ _ _ => rfl, [], by simp, rfl, by simp⟩
  | @more s' n h xb ib im ob ih =>
    have e : (s'.newSt (s'.op k * 4 + k) xb ib im ob).id = s'.op k * 4 + k := rfl
    have e4 : (s'.op k * 4 + k) % 4 = k := by omega
    refine ⟨ih.side, ih.own, ih.other, ih.limit, ih.raise, ih.sent, ih.read, ih.mb, ?_, fun j hj hne => ?_, ?_⟩
    · rw [Ss.made_op _ _ _ hk, e, e4, if_pos rfl, ih.op]; omega
    · rw [Ss.made_op _ _ _ hj, e, e4, if_neg (Ne.symm hne)]; exact ih.ops j hj hne
    · obtain ⟨t, h1, h2, h3⟩ := ih.l
      refine ⟨t ++ [s'.newSt (s'.op k * 4 + k) xb ib im ob], ?_, by simp [h2], fun y hy => ?_⟩
      · show s'.l ++ _ = _
        rw [h1, List.append_assoc]
      · rw [List.mem_append, List.mem_singleton] at hy
        rcases hy with hy | rfl
        · obtain ⟨a1, a2, a3⟩ := h3 y hy
          exact ⟨a1, by omega, a3⟩
        · have hz := newSt_zero s' (s'.op k * 4 + k) xb ib im ob
          refine ⟨by rw [e]; exact e4, by rw [e, ih.op]; omega, hz.1, hz.2.1, hz.2.2.1, hz.2.2.2, ?_⟩
          rw [newSt_of ih.side ih.own ih.other]
          exact newSt_own _ _ _ _ _ _
theorem Fills.wf {k : Nat} (hk : k < 4) {s s' : Ss} {n : Nat} (h : Fills k s s' n) (hw : s.WF) (hl : s.l.length + n ≤ 100) : s'.WF := by
  induction h with
  | none => exact hw
  | @more s' n h xb ib im ob ih =>
    have g := h.grew hk
    obtain ⟨t, h1, h2, h3⟩ := g.l
    have e4 : (s'.op k * 4 + k) % 4 = k := by omega
    exact (ih (by omega)).made (by rw [e4]; omega) (by rw [h1, List.length_append]; omega)
/-- what named tells -/
inductive Ss.Names (s : Ss) (id : Nat) (may : Bool) : Value → Nat → Ss → Prop
  | state (h : may = false ∨ ((∀ y ∈ s.l, y.id ≠ id) ∧ s.mine id = true)) : s.Names id may (.pointer none) 22 s
  | here (x : St) (h : may = true) (hx : x ∈ s.l) (hid : x.id = id) : s.Names id may (.pointer (some ⟨x.xb, 0, none⟩)) 0 s
  | limit (h : may = true) (hn : ∀ y ∈ s.l, y.id ≠ id) (hm : s.mine id = false) (hc : s.own.count id ≤ id / 4) : s.Names id may (.pointer none) 21 s
  | many (h : may = true) (hn : ∀ y ∈ s.l, y.id ≠ id) (hm : s.mine id = false) (hc : id / 4 < s.own.count id) (hl : 100 < s.l.length + id / 4 + 1 - s.op (id % 4)) : s.Names id may (.pointer none) 4 s
  | made (s' : Ss) (x : St) (n : Nat) (h : may = true) (hn : ∀ y ∈ s.l, y.id ≠ id) (hm : s.mine id = false) (hc : id / 4 < s.own.count id) (hl : s.l.length + n ≤ 100) (hf : Fills (id % 4) s s' n) (hop : s.op (id % 4) + n = id / 4 + 1) (hx : x ∈ s'.l) (hid : x.id = id) : s.Names id may (.pointer (some ⟨x.xb, 0, none⟩)) 0 s'
theorem Ss.Names.wf {s s' : Ss} {id : Nat} {may : Bool} {v : Value} {c : Nat} (h : s.Names id may v c s') (hw : s.WF) : s'.WF := by
  cases h with
  | state h => exact hw
  | here x h hx hid => exact hw
  | limit h hn hm hc => exact hw
  | many h hn hm hc hl => exact hw
  | made s' x n h hn hm hc hl hf hop hx hid => exact hf.wf (Nat.mod_lt _ (by omega)) hw hl
theorem Ss.look_of {s : Ss} (hn : (s.l.map St.id).Nodup) {x : St} (hx : x ∈ s.l) : s.look (x.id : Int) = some (.pointer (some ⟨x.xb, 0, none⟩)) := by
  cases h : s.look (x.id : Int) with
  | none => exact absurd rfl (Ss.look_none h x hx)
  | some v =>
    obtain ⟨y, hy, he, rfl⟩ := Ss.look_some h
    rw [ids_inj hn hy hx he]
theorem Ss.look_not {s : Ss} {id : Nat} (h : ∀ y ∈ s.l, y.id ≠ id) : s.look (id : Int) = none := by
  cases h' : s.look (id : Int) with
  | none => rfl
  | some v =>
    obtain ⟨y, hy, he, rfl⟩ := Ss.look_some h'
    exact absurd he (h y hy)
def opAt (w : World) (sb k : Nat) : Nat := match w.cell? ⟨sb, 14 + k, none⟩ with
  | some (.int _ z) => z.toNat
  | _ => 0
set_option maxRecDepth 100000 in
set_option maxHeartbeats 2000000 in
theorem stnamed_any (w : World) (sb : Nat) (s : Ss) (h : SBox w sb s) (hw : s.WF) (id : Nat) (hid : id ≤ 18446744073709551615) (may : Bool) :
    Calls Tryz.prog 29 #[.pointer (some ⟨sb, 0, none⟩), .int .u64 (id : Int), .bool may] w fun e w' => ∃ v c s', e = .returned (.tuple #[v, .int .i64 (c : Nat)]) ∧ s.Names id may v c s' ∧ SStep w sb s s' w' := by
  have HB := hide h
  have HW := hide hw
  have hsl : sb < w.heap.size := h.blk.lt
  have hlk := h.map.lookup_ok (P := Tryz.prog) (T := 66) Tryz.underlying66 Tryz.underlying22 (z := .pointer none) (by kernel_rfl) (id : Int)
  have v13 : w.cell? ⟨sb, 13, none⟩ = some (.map (some s.mb)) := h.blk.cell 13
  have HMi := hide (stmine_any w sb s h id hid)
  cases hlo : s.look (id : Int) with
  | some v =>
    rw [hlo] at hlk
    obtain ⟨x, hx, hxid, rfl⟩ := Ss.look_some hlo
    simp only [Option.getD_some, Option.isSome_some] at hlk
    have HX := hide hx
    clear h hw hlo hx
    cases may with
    | true =>
      go_enter Tryz.func29, Tryz.ntmps29
      go_wp2_with fail
      go_ret2
      exact ⟨_, 0, s, rfl, .here x rfl HX.out hxid, SStep.refl HB.out (Mod.refl [] w)⟩
    | false =>
      go_enter Tryz.func29, Tryz.ntmps29
      go_wp2_with fail
      go_ret2
      exact ⟨_, 22, s, rfl, .state (.inl rfl), SStep.refl HB.out (Mod.refl [] w)⟩
  | none =>
    rw [hlo] at hlk
    simp only [Option.getD_none, Option.isSome_none] at hlk
    have HN := hide (Ss.look_none hlo)
    cases may with
    | false =>
      clear h hw hlo
      go_enter Tryz.func29, Tryz.ntmps29
      go_wp2_with fail
      go_ret2
      exact ⟨_, 22, s, rfl, .state (.inl rfl), SStep.refl HB.out (Mod.refl [] w)⟩
    | true =>
      cases hmi : s.mine id with
      | true =>
        rw [hmi] at HMi
        clear h hw hlo
        go_enter Tryz.func29, Tryz.ntmps29
        go_wp2_with fail
        refine HMi.out.mono ?_
        rintro e w2 ⟨rfl, rfl⟩
        go_wp2_with fail
        go_ret2
        exact ⟨_, 22, s, rfl, .state (.inr ⟨HN.out, hmi⟩), SStep.refl HB.out (Mod.refl [] w2)⟩
      | false =>
        rw [hmi] at HMi
        have HC := hide (stcount_any w s.own id hid)
        obtain ⟨ct, hct⟩ : ∃ ct, s.own.count id = ct := ⟨_, rfl⟩
        rw [hct] at HC
        have hctl : ct ≤ 1152921504606846976 := by
          rw [← hct]
          unfold Lm.count
          split
          · exact hw.own.bidis
          · exact hw.own.unis
        obtain ⟨k, hk⟩ : ∃ k, id % 4 = k := ⟨_, rfl⟩
        have hk4 : k < 4 := by omega
        have hq : (id : Int) / 4 = ((id / 4 : Nat) : Int) := by omega
        have hr : (id : Int) % 4 = (k : Int) := by omega
        obtain ⟨q, hqq⟩ : ∃ q, id / 4 = q := ⟨_, rfl⟩
        rw [hqq] at hq
        obtain ⟨op, hop⟩ : ∃ op, s.op k = op := ⟨_, rfl⟩
        obtain ⟨ln, hln⟩ : ∃ ln, s.l.length = ln := ⟨_, rfl⟩
        have hopl : op ≤ ln := by rw [← hop, ← hln]; exact hw.op_le k
        have hlnl : ln ≤ 100 := by rw [← hln]; exact hw.len
        have hopq : op ≤ q := by
          apply Nat.le_of_not_lt
          intro hlt
          obtain ⟨x, hx, e⟩ := hw.have_ k q hk4 (by rw [hop]; exact hlt)
          exact HN.out x hx (by omega)
        have HQd := hide hq
        have hlen := fun W (m : Mod [] w W) (ty : TypeId) => stlen (P := Tryz.prog) (T := 66) (h.new m) hw Tryz.underlying66 ty
        have HLen : Hid (∀ W, Mod [] w W → ∀ ty, (Builtin.len_ #[66] ty #[.map (some s.mb)]).run Tryz.prog W = .ok (.int .i64 (ln : Int)) W) := hide (fun W m ty => by rw [← hln]; exact hlen W m ty)
        have HMi2 := hide hmi
        have HCt := hide hct
        have HK := hide hk
        have HQ := hide hqq
        have HOp := hide hop
        have HLn := hide hln
        have v1 : w.cell? ⟨sb, 1, none⟩ = some (.int .u64 (s.own.data : Int)) := h.blk.cell 1
        have v2 : w.cell? ⟨sb, 2, none⟩ = some (.int .u64 (s.own.bl : Int)) := h.blk.cell 2
        have v3 : w.cell? ⟨sb, 3, none⟩ = some (.int .u64 (s.own.br : Int)) := h.blk.cell 3
        have v4 : w.cell? ⟨sb, 4, none⟩ = some (.int .u64 (s.own.un : Int)) := h.blk.cell 4
        have v5 : w.cell? ⟨sb, 5, none⟩ = some (.int .u64 (s.own.bidis : Int)) := h.blk.cell 5
        have v6 : w.cell? ⟨sb, 6, none⟩ = some (.int .u64 (s.own.unis : Int)) := h.blk.cell 6
        unfold Lm.val at HC
        clear h hw hlo hmi hct hk hqq hop hln hlen
        go_enter Tryz.func29, Tryz.ntmps29
        go_wp2_with fail
        refine HMi.out.mono ?_
        rintro e w2 ⟨rfl, rfl⟩
        go_wp2_with fail
        refine HC.out.mono ?_
        rintro e w3 ⟨rfl, hm3⟩
        have HM3 := hide hm3
        have HB3 := hide (HB.out.new hm3)
        have u13 : w3.cell? ⟨sb, 13, none⟩ = some (.map (some s.mb)) := HB3.out.blk.cell 13
        have uo : w3.cell? ⟨sb, 14 + k, none⟩ = some (.int .u64 (op : Int)) := by rw [HB3.out.blk.cell, ← HOp.out]; exact s.op_cell hk4
        have hsl3 : sb < w3.heap.size := HB3.out.blk.lt
        clear hm3 v1 v2 v3 v4 v5 v6 v13 hlk
        by_cases h1 : ct ≤ q
        · go_wp2_with fail
          go_ret2
          exact ⟨_, 21, s, rfl, .limit rfl HN.out HMi2.out (by rw [HCt.out, HQ.out]; exact h1), SStep.refl HB.out HM3.out⟩
        · have hln9 : ∀ d os, (Builtin.len_ #[66] 3 #[.map (some s.mb)]).run Tryz.prog (grow (redrawn w3 d) os) = .ok (.int .i64 (ln : Int)) (grow (redrawn w3 d) os) := fun d os => HLen.out _ (HM3.out.trans (Mod.of_below (F := []) (below_regrown w3 d os)) (by simp)) _
          have y13 := cell_regrown u13
          have yo := cell_regrown uo
          have k0 : (0 : Int) ≤ (k : Int) := by omega
          have ki : (k : Int) < 4 := by omega
          go_wp2_with fail
          simp only [hr]
          have hql : q < 1152921504606846976 := by omega
          refine wp_region_below (by kernel_rfl) (by kernel_rfl) (by kernel_rfl) ?_
          repeat (go_big_quiet_step (fail))
          refine wpQuiet_nil ?_
          intro _ hw'
          obtain ⟨⟨dq, osq⟩, hw''⟩ := hw'
          subst hw''
          have hmd : Mod [] w3 (grow (redrawn w3 dq) osq) := Mod.of_below (F := []) (below_regrown w3 dq osq)
          have HM4 := hide (HM3.out.trans hmd (by simp))
          have HB4 := hide (HB.out.new HM4.out)
          obtain ⟨w4, hw4⟩ : ∃ w4, grow (redrawn w3 dq) osq = w4 := ⟨_, rfl⟩
          rw [hw4] at HM4 HB4 ⊢
          clear hw4 hmd hln9 y13 yo u13 uo hsl3 hq hr
          by_cases h2 : 100 < ln + q + 1 - op
          · have d2 : decide ((ln : Int) + (q : Int) + 1 - (op : Int) > 100) = true := decide_eq_true (by omega)
            go_wp2_with fail
            go_ret2
            exact ⟨_, 4, s, rfl, .many rfl HN.out HMi2.out (by rw [HCt.out, HQ.out]; omega) (by rw [HQ.out, HK.out, HLn.out, HOp.out]; exact h2), SStep.refl HB.out HM4.out⟩
          · go_wp2_with fail
            have hok : ln + (q + 1 - op) ≤ 100 := by omega
            go_loopw [] (fun wr => ∃ s' n, Fills k s s' n ∧ op + n ≤ q + 1 ∧ SStep w2 sb s s' wr) (fun wr => (q + 1) - opAt wr sb k)
            case atStart => exact ⟨s, 0, Fills.none _, by omega, SStep.refl HB.out HM4.out⟩
            case round =>
              obtain ⟨s', n, hF, hle, hst⟩ := hrel
              have hg := hF.grew hk4
              obtain ⟨t, ht1, ht2, _⟩ := hg.l
              have hlen' : s'.l.length = ln + n := by rw [ht1, List.length_append, ht2, HLn.out]
              have hw' := hF.wf hk4 HW.out (by rw [HLn.out]; omega)
              obtain ⟨opn, hopn⟩ : ∃ opn, s'.op k = opn := ⟨_, rfl⟩
              have HO2 : Hid (opn = op + n) := hide (by rw [← hopn, hg.op, HOp.out])
              have hbn : op + n ≤ 101 ∧ opn ≤ 101 := by have := HO2.out; omega
              have hq := HQd.out
              have wo : wr.cell? ⟨sb, 14 + k, none⟩ = some (.int .u64 (opn : Int)) := by rw [hst.1.blk.cell, ← hopn]; exact s'.op_cell hk4
              have HA : Hid (opAt wr sb k = opn) := hide (by unfold opAt; rw [wo]; simp)
              have HF := hide hF
              have HW2 := hide hw'
              have HSt := hide hst
              have HOn := hide hopn
              by_cases h3 : opn ≤ q
              · have hid4 : (opn * 4 + k) % 4 = k := by omega
                have hmk := (stmake_any wr sb s' hst.1 (opn * 4 + k) (by omega) (hw'.next (by rw [hid4, hopn]; omega)) (by rw [hid4, hopn]; omega) (Ss.way_le hw' _).1 (Ss.way_le hw' _).2 (by
                  left
                  have hm := HMi2.out
                  unfold Ss.mine at hm
                  have e2 : (opn * 4 + k) % 2 = id % 2 := by have := HK.out; omega
                  unfold Ss.takes
                  rw [e2, hg.side]
                  have : (id % 2 != s.side) = true := by rw [bne, hm]; rfl
                  rw [this, Bool.or_true]))
                rw [show ((opn * 4 + k : Nat) : Int) = (opn : Int) * 4 + (k : Int) from by omega] at hmk
                have HMk := hide hmk
                clear hmk
                have d3 : decide ((opn : Int) ≤ (q : Int)) = true := decide_eq_true (by omega)
                clear hF hw' hst hopn hg ht1 ht2
                go_wp2_with fail
                refine HMk.out.mono ?_
                rintro e w5 ⟨rfl, xb, ib, im, ob, hst2⟩
                have hF2 := Fills.more HF.out xb ib im ob
                rw [HOn.out] at hF2
                have HSt2 := hide hst2
                clear hst2
                go_wp2_with fail
                go_roundw
                case rel => exact ⟨_, n + 1, hF2, by have := HO2.out; omega, HSt.out.trans HSt2.out⟩
                case measure =>
                  have hg2 := hF2.grew hk4
                  have : opAt w5 sb k = opn + 1 := by
                    unfold opAt
                    rw [HSt2.out.1.blk.cell, Ss.op_cell _ hk4, hg2.op, HOp.out]
                    have := HO2.out
                    simp
                    omega
                  rw [this, HA.out]
                  omega
              · have hlk2 := hst.1.map.lookup (P := Tryz.prog) (T := 66) Tryz.underlying66 Tryz.underlying22 (z := .pointer none) (by kernel_rfl) (id : Int)
                obtain ⟨x, hx, hxid⟩ := hw'.have_ k q hk4 (by rw [hopn]; have := HO2.out; omega)
                have hxid2 : x.id = id := by rw [hxid]; have := HK.out; have := HQ.out; omega
                have hlo : s'.look (id : Int) = some (.pointer (some ⟨x.xb, 0, none⟩)) := by rw [← hxid2]; exact Ss.look_of hw'.ids hx
                rw [hlo] at hlk2
                simp only [Option.getD_some] at hlk2
                have u13 : wr.cell? ⟨sb, 13, none⟩ = some (.map (some s'.mb)) := hst.1.blk.cell 13
                have d3 : decide ((opn : Int) ≤ (q : Int)) = false := decide_eq_false (by omega)
                have HX := hide hx
                clear hF hw' hst hopn hg ht1 ht2 hlo hx
                go_wp2_with fail
                go_ret2
                have ho2 := HO2.out
                exact ⟨_, 0, s', rfl, .made s' x n rfl HN.out HMi2.out (by rw [HCt.out, HQ.out]; omega) (by rw [HLn.out]; omega) (by rw [HK.out]; exact HF.out) (by rw [HK.out, HQ.out, HOp.out]; omega) HX.out hxid2, HSt.out⟩
end Go.Proofs.YtjdfemfobcjecaaGreat

/-
  streams: came, Sums.
-/
namespace Go.Proofs.YtjdfemfobcjecaaGreat
open Go.RowKit Go.Sort
set_option linter.unusedVariables false
set_option linter.unusedSimpArgs false
def partL (l : List St) (left : Int → Bool) : Nat := ((l.filter fun y => !left (y.id : Int)).map St.top).sum
theorem partL_step : ∀ (l : List St) (left : Int → Bool) (x : St), (l.map St.id).Nodup → x ∈ l → left (x.id : Int) = true → partL l (fun z => left z && !(z == (x.id : Int))) = partL l left + x.top
  | [], _, _, _, hx, _ => by cases hx
  | y :: l, left, x, hn, hx, hl => by
    rw [List.map_cons, List.nodup_cons] at hn
    by_cases e : y.id = x.id
    · have hyx : y = x := by
        rcases List.mem_cons.1 hx with rfl | hx
        · rfl
        · exact absurd (List.mem_map.2 ⟨x, hx, e.symm⟩) hn.1
      subst hyx
      have hrest : (l.filter fun z => !(left (z.id : Int) && !((z.id : Int) == (y.id : Int)))) = l.filter fun z => !left (z.id : Int) := by
        apply List.filter_congr
        intro z hz
        have hne : ((z.id : Int) == (y.id : Int)) = false := by
          rw [beq_eq_false_iff_ne]
          intro e2
          exact hn.1 (List.mem_map.2 ⟨z, hz, by omega⟩)
        rw [hne]; simp
      unfold partL
      rw [List.filter_cons, List.filter_cons, hrest, hl]
      simp
      omega
    · have hx' : x ∈ l := by
        rcases List.mem_cons.1 hx with rfl | hx
        · exact absurd rfl e
        · exact hx
      have ih := partL_step l left x hn.2 hx' hl
      unfold partL at ih ⊢
      have hne : ((y.id : Int) == (x.id : Int)) = false := by
        rw [beq_eq_false_iff_ne]; omega
      rw [List.filter_cons, List.filter_cons]
      simp only [hne, Bool.not_false, Bool.and_true] at ih ⊢
      cases left (y.id : Int)
      · simp at ih ⊢
        omega
      · simp at ih ⊢
        omega
theorem partL_le : ∀ (l : List St) (left : Int → Bool), partL l left ≤ (l.map St.top).sum
  | [], _ => by simp [partL]
  | y :: l, left => by
    have ih := partL_le l left
    unfold partL at ih ⊢
    rw [List.filter_cons]
    split
    · simp; omega
    · simp; omega
theorem partL_all (l : List St) (left : Int → Bool) (h : ∀ x, left x = false) : partL l left = (l.map St.top).sum := by
  unfold partL
  rw [List.filter_eq_self.2 (fun y _ => by rw [h]; rfl)]
theorem partL_none (l : List St) (left : Int → Bool) (h : ∀ y ∈ l, left (y.id : Int) = true) : partL l left = 0 := by
  unfold partL
  rw [List.filter_eq_nil_iff.2 (fun y hy => by rw [h y hy]; simp)]
  rfl
set_option maxRecDepth 100000 in
set_option maxHeartbeats 4000000 in
theorem stcame_any (w : World) (sb : Nat) (s : Ss) (h : SBox w sb s) (hw : s.WF) :
    Calls Tryz.prog 43 #[.pointer (some ⟨sb, 0, none⟩)] w fun e w' => e = .returned (.int .u64 (s.came : Int)) ∧ Mod [] w w' := by
  have HB := hide h
  have HI := hide hw.ids
  have hcl : s.came ≤ 4611686018427387903 := Nat.le_trans hw.came hw.lim
  have v13 : w.cell? ⟨sb, 13, none⟩ = some (.map (some s.mb)) := h.blk.cell 13
  obtain ⟨w0, cnt0, hrun, hit, hm0, hs0⟩ := h.map.range (P := Tryz.prog) (T := 66) Tryz.underlying66
  have hp0 : partL s.l (fun x => (s.look x).isSome) = 0 := partL_none _ _ fun y hy => by rw [← s.mem_ks]; exact List.mem_map.2 ⟨y, hy, rfl⟩
  have HP0 := hide hp0
  have HIT := hide hit
  have HM0 := hide hm0
  clear h hw hp0 hit hm0
  go_enter Tryz.func43, Tryz.ntmps43
  go_wp2_with fail
  go_loopw [3] (fun n wr => ∃ (left : Int → Bool) (c : Nat), n = .int .u64 (partL s.l left : Int) ∧ IIter wr s.mb w.heap.size .u64 s.look left c ∧ Mod [] w wr) (fun _ wr => wr.rangeLeft s.mb w.heap.size)
  case atStart => exact ⟨_, _, by rw [HP0.out]; rfl, HIT.out, HM0.out⟩
  case round =>
    obtain ⟨left, c, rfl, hit, hm⟩ := hrel
    have HM := hide hm
    have hsz : w.heap.size ≤ wr.heap.size := hm.size
    rcases hit.next (P := Tryz.prog) 0 with ⟨hz, hl0, hnx⟩ | ⟨x, v, w2, cnt2, hlx, hfx, hnx, hit2, hlt, hm2, hs2, hen⟩
    · have hall : partL s.l left = s.came := partL_all _ _ hl0
      have HA := hide hall
      clear hit hm hall
      go_wp2_with fail
      go_ret
      exact ⟨by rw [HA.out]; rfl, HM.out⟩
    · have hv0 : (0 : Int) ≤ x := by
        have := (s.mem_ks x).2 (by rw [hfx]; rfl)
        obtain ⟨y, hy, rfl⟩ := List.mem_map.1 this
        omega
      obtain ⟨id, rfl⟩ : ∃ id : Nat, x = (id : Int) := ⟨x.toNat, by omega⟩
      obtain ⟨y, hy, hyid, rfl⟩ := Ss.look_some hfx
      have hm3 : Mod [] w w2 := hm.trans hm2 (by simp)
      have HM3 := hide hm3
      have hst := partL_step s.l left y HI.out hy (by rw [hyid]; exact hlx)
      rw [hyid] at hst
      have HSt := hide hst
      have hple : partL s.l (fun z => left z && !(z == (id : Int))) ≤ s.came := partL_le _ _
      rw [hst] at hple
      have hyb := (HB.out.new hm3).all y hy
      have y1 : w2.cell? ⟨y.xb, 1, none⟩ = some y.inV := hyb.blk.cell 1
      have HIT2 := hide hit2
      have HLe := hide hit.left_eq
      obtain ⟨tp, htp⟩ : ∃ tp, y.top = tp := ⟨_, rfl⟩
      obtain ⟨pt, hpt⟩ : ∃ pt, partL s.l left = pt := ⟨_, rfl⟩
      rw [htp, hpt] at hple HSt
      rw [hpt] at hst
      have HHt := hide htp
      have HHp := hide hpt
      cases hyi : y.inn with
      | none =>
        have y1' : w2.cell? ⟨y.xb, 1, none⟩ = some (.pointer none) := by rw [y1]; unfold St.inV; rw [hyi]; rfl
        have ht0 : tp = 0 := by rw [← htp]; unfold St.top; rw [hyi]
        have HT0 := hide ht0
        clear y1 hyb hit hm hm2 hit2 hm3 hst hfx hlx hpt htp ht0
        go_wp2_with fail
        go_roundw
        case rel => exact ⟨_, cnt2, by rw [HSt.out, HT0.out, HHp.out]; simp, HIT2.out, HM3.out⟩
        case measure => rw [HIT2.out.left_eq, HLe.out]; exact hlt
      | some p =>
        obtain ⟨b, m, o⟩ := p
        have y1' : w2.cell? ⟨y.xb, 1, none⟩ = some (.pointer (some ⟨b, 0, none⟩)) := by rw [y1]; unfold St.inV; rw [hyi]; rfl
        have hto : o.top = tp := by rw [← htp]; unfold St.top; rw [hyi]
        have HTop := hide (fun n => itop_any (w2.drewN n) b m o ((hyb.inn b m o hyi).mod ((Mod.refl [] w2).drewN n) (by simp) (by simp)))
        have hb2 := hyb.inn b m o hyi
        have HTop2 := hide (itop_any w2 b m o hb2)
        rw [hto] at HTop2
        clear y1 hyb hit hm hm2 hit2 hm3 hst hfx hlx hpt htp hto hb2 HTop
        go_wp2_with fail
        refine HTop2.out.mono ?_
        rintro e w4 ⟨rfl, n4, rfl⟩
        have HIT3 := hide (HIT2.out.mod ((Mod.refl [] w2).drewN n4) (by simp) (by simp))
        have HM4 := hide (HM3.out.drewN n4)
        go_wp2_with fail
        go_roundw
        case rel => exact ⟨_, cnt2, by rw [HSt.out, HHp.out]; exact congrArg (Value.int .u64) (by rw [show (pt : Int) + (tp : Int) = ((pt + tp : Nat) : Int) from by omega]; exact IntWalk.u64_in _ (by omega)), HIT3.out, HM4.out⟩
        case measure => rw [HIT3.out.left_eq, HLe.out]; exact hlt
set_option maxRecDepth 100000 in
set_option maxHeartbeats 4000000 in
theorem stsums_any (w : World) (sb : Nat) (s : Ss) (h : SBox w sb s) (hw : s.WF) :
    Calls Tryz.prog 19 #[.pointer (some ⟨sb, 0, none⟩)] w fun e w' => e = .returned (.tuple #[.int .u64 (s.sent : Int), .int .u64 (s.came : Int), .int .u64 (s.read : Int)]) ∧ Mod [] w w' := by
  have HB := hide h
  have cc : ∀ d os, Calls Tryz.prog 43 #[.pointer (some ⟨sb, 0, none⟩)] (grow (redrawn w d) os) fun e0 w'' => e0 = .returned (.int .u64 (s.came : Int)) ∧ ∃ p : Regrown, w'' = grow (redrawn w p.d) p.os := fun d os => Calls.regrown_of ((stcame_any _ sb s (h.new (Mod.of_below (F := []) (below_regrown w d os))) hw).mono fun _ _ hh => ⟨hh.1, hh.2.below (Nat.le_refl _) (by simp)⟩)
  have CC := hide cc
  have y20 := cell_regrown (show w.cell? ⟨sb, 20, none⟩ = some (.int .u64 (s.sent : Int)) from h.blk.cell 20)
  have y21 := cell_regrown (show w.cell? ⟨sb, 21, none⟩ = some (.int .u64 (s.read : Int)) from h.blk.cell 21)
  clear h hw cc
  go_enter Tryz.func19, Tryz.ntmps19
  go_wp2_with fail
  refine wp_region_below (by kernel_rfl) (by kernel_rfl) (by kernel_rfl) ?_
  repeat (go_big_quiet_step (with_reducible exact CC.out _ _))
  refine wpQuiet_nil ?_
  intro _ hw'
  obtain ⟨⟨dq, osq⟩, hw''⟩ := hw'
  subst hw''
  go_wp2_with fail
  refine bodyPost_ret (results_tmp3 rfl _ _ _) rfl ?_
  exact ⟨rfl, Mod.of_below (F := []) (below_regrown w dq osq)⟩
end Go.Proofs.YtjdfemfobcjecaaGreat

/-
  streams: Done, Ready, Write, Reset, Stop.
-/
namespace Go.Proofs.YtjdfemfobcjecaaGreat
open Go.RowKit Go.Sort
set_option linter.unusedVariables false
set_option linter.unusedSimpArgs false
def Ss.get (s : Ss) (id : Nat) : Option St := s.l.find? fun y => decide (y.id = id)
theorem Ss.get_mem {s : Ss} {id : Nat} {x : St} (h : s.get id = some x) : x ∈ s.l ∧ x.id = id := by
  unfold Ss.get at h
  refine ⟨List.mem_of_find?_eq_some h, ?_⟩
  have := List.find?_some h
  simpa using this
theorem Ss.look_get (s : Ss) (id : Nat) : s.look (id : Int) = (s.get id).map fun x => .pointer (some ⟨x.xb, 0, none⟩) := by
  unfold Ss.look Ss.get
  congr 2
  funext y
  exact decide_eq_decide.2 (by omega)
theorem Ss.get_none {s : Ss} {id : Nat} (h : s.get id = none) : ∀ y ∈ s.l, y.id ≠ id := by
  intro y hy e
  unfold Ss.get at h
  rw [List.find?_eq_none] at h
  have := h y hy
  simp at this
  exact this e
theorem Ss.put_put (s : Ss) (x y : St) (h : x.id = y.id) : (s.put x).put y = s.put y := by
  unfold Ss.put
  simp only [List.map_map]
  congr 1
  apply List.map_congr_left
  intro z hz
  simp only [Function.comp]
  by_cases e : z.id = x.id
  · rw [if_pos e, if_pos h, if_pos (e.trans h)]
  · rw [if_neg e]
theorem lookup_get {w : World} {sb : Nat} {s : Ss} (h : SBox w sb s) (id : Nat) : (Instr.lookup 66 (.map (some s.mb)) (.int .u64 (id : Int)) true).run Tryz.prog w = .ok (.tuple #[((s.get id).map fun x => .pointer (some ⟨x.xb, 0, none⟩)).getD (.pointer none), .bool (s.get id).isSome]) w := by
  have := h.map.lookup_ok (P := Tryz.prog) (T := 66) Tryz.underlying66 Tryz.underlying22 (z := .pointer none) (by kernel_rfl) (id : Int)
  rw [Ss.look_get, Option.isSome_map] at this
  exact this
def Ss.doneOf (s : Ss) (id : Nat) : Bool := match s.get id with
  | some x => match x.out with
    | some p => p.2.2.2.done
    | none => false
  | none => false
def Ss.readyOf (s : Ss) (id : Nat) : Nat := match s.get id with
  | some x => match x.inn with
    | some p => p.2.2.ready - p.2.2.taken
    | none => 0
  | none => 0
set_option maxRecDepth 100000 in
set_option maxHeartbeats 4000000 in
theorem stdone_any (w : World) (sb : Nat) (s : Ss) (h : SBox w sb s) (hw : s.WF) (id : Nat) :
    Calls Tryz.prog 23 #[.pointer (some ⟨sb, 0, none⟩), .int .u64 (id : Int)] w fun e w' => e = .returned (.bool (s.doneOf id)) ∧ Mod [] w w' := by
  have HB := hide h
  have v13 : w.cell? ⟨sb, 13, none⟩ = some (.map (some s.mb)) := h.blk.cell 13
  have hlk := lookup_get h id
  cases hg : s.get id with
  | none =>
    have HG := hide hg
    rw [hg] at hlk
    simp only [Option.map_none, Option.getD_none, Option.isSome_none] at hlk
    clear h hg
    go_enter Tryz.func23, Tryz.ntmps23
    go_wp2_with fail
    go_ret
    exact ⟨by unfold Ss.doneOf; rw [HG.out]; rfl, Mod.refl _ _⟩
  | some x =>
    have HG := hide hg
    obtain ⟨hx, hxid⟩ := Ss.get_mem hg
    have HX := hide hx
    have HXi := hide hxid
    rw [hg] at hlk
    simp only [Option.map_some, Option.getD_some, Option.isSome_some] at hlk
    have x2 : w.cell? ⟨x.xb, 2, none⟩ = some x.outV := (h.all x hx).blk.cell 2
    cases hxo : x.out with
    | none =>
      have x2' : w.cell? ⟨x.xb, 2, none⟩ = some (.pointer none) := by rw [x2]; unfold St.outV; rw [hxo]; rfl
      have HXo := hide hxo
      clear x2 h hg hx hxid hxo
      go_enter Tryz.func23, Tryz.ntmps23
      go_wp2_with fail
      go_ret
      exact ⟨by unfold Ss.doneOf; rw [HG.out]; simp only; rw [HXo.out]; rfl, Mod.refl _ _⟩
    | some p =>
      obtain ⟨b, dv, sv, o⟩ := p
      have x2' : w.cell? ⟨x.xb, 2, none⟩ = some (.pointer (some ⟨b, 0, none⟩)) := by rw [x2]; unfold St.outV; rw [hxo]; rfl
      have hob := (h.all x hx).out b dv sv o hxo
      have HXo := hide hxo
      have HD := hide (done_any w b o dv sv hob)
      clear x2 h hg hx hxid hxo hob
      go_enter Tryz.func23, Tryz.ntmps23
      go_wp2_with fail
      refine HD.out.mono ?_
      rintro e w1 ⟨rfl, m1⟩
      go_wp2_with fail
      go_ret
      exact ⟨by unfold Ss.doneOf; rw [HG.out]; simp only; rw [HXo.out]; rfl, m1⟩
set_option maxRecDepth 100000 in
set_option maxHeartbeats 4000000 in
theorem stready_any (w : World) (sb : Nat) (s : Ss) (h : SBox w sb s) (hw : s.WF) (id : Nat) :
    Calls Tryz.prog 24 #[.pointer (some ⟨sb, 0, none⟩), .int .u64 (id : Int)] w fun e w' => e = .returned (.int .i64 (s.readyOf id : Int)) ∧ Mod [] w w' := by
  have HB := hide h
  have v13 : w.cell? ⟨sb, 13, none⟩ = some (.map (some s.mb)) := h.blk.cell 13
  have hlk := lookup_get h id
  cases hg : s.get id with
  | none =>
    have HG := hide hg
    rw [hg] at hlk
    simp only [Option.map_none, Option.getD_none, Option.isSome_none] at hlk
    clear h hg
    go_enter Tryz.func24, Tryz.ntmps24
    go_wp2_with fail
    go_ret
    exact ⟨by unfold Ss.readyOf; rw [HG.out]; rfl, Mod.refl _ _⟩
  | some x =>
    have HG := hide hg
    obtain ⟨hx, hxid⟩ := Ss.get_mem hg
    have HX := hide hx
    have HXi := hide hxid
    rw [hg] at hlk
    simp only [Option.map_some, Option.getD_some, Option.isSome_some] at hlk
    have x2 : w.cell? ⟨x.xb, 1, none⟩ = some x.inV := (h.all x hx).blk.cell 1
    cases hxo : x.inn with
    | none =>
      have x2' : w.cell? ⟨x.xb, 1, none⟩ = some (.pointer none) := by rw [x2]; unfold St.inV; rw [hxo]; rfl
      have HXo := hide hxo
      clear x2 h hg hx hxid hxo
      go_enter Tryz.func24, Tryz.ntmps24
      go_wp2_with fail
      go_ret
      exact ⟨by unfold Ss.readyOf; rw [HG.out]; simp only; rw [HXo.out]; rfl, Mod.refl _ _⟩
    | some p =>
      obtain ⟨b, m, o⟩ := p
      have x2' : w.cell? ⟨x.xb, 1, none⟩ = some (.pointer (some ⟨b, 0, none⟩)) := by rw [x2]; unfold St.inV; rw [hxo]; rfl
      have hob := (h.all x hx).inn b m o hxo
      have HXo := hide hxo
      have HD := hide (iready_any w b m o hob)
      clear x2 h hg hx hxid hxo hob
      go_enter Tryz.func24, Tryz.ntmps24
      go_wp2_with fail
      refine HD.out.mono ?_
      rintro e w1 ⟨rfl, n1, rfl⟩
      go_wp2_with fail
      go_ret
      exact ⟨by unfold Ss.readyOf; rw [HG.out]; simp only; rw [HXo.out]; rfl, (Mod.refl [] w).drewN n1⟩
/-- what Write does -/
inductive Ss.Writes (s : Ss) (id : Nat) (D : List UInt8) (fin : Bool) : Int → Ss → Prop
  | none (h : s.get id = none) : s.Writes id D fin 10 s
  | arg (x : St) (h : s.get id = some x) (ho : x.out = none) : s.Writes id D fin 1 s
  | goes (x : St) (b : Nat) (dv sv dv' sv' : Value) (o : Ob) (h : s.get id = some x) (ho : x.out = some (b, dv, sv, o)) : s.Writes id D fin (o.writeErr D) (s.put (x.withOut b dv' sv' (o.write D fin)))
set_option maxRecDepth 100000 in
set_option maxHeartbeats 4000000 in
theorem stwrite_any (w : World) (sb : Nat) (s : Ss) (h : SBox w sb s) (hw : s.WF) (id : Nat) (t : ByteArray) (ht : t.size ≤ 9223372036854700000) (fin : Bool) :
    Calls Tryz.prog 13 #[.pointer (some ⟨sb, 0, none⟩), .int .u64 (id : Int), .string t, .bool fin] w fun e w' => ∃ c s', e = .returned (.int .i64 c) ∧ s.Writes id t.data.toList fin c s' ∧ SStep w sb s s' w' := by
  have HB := hide h
  have v13 : w.cell? ⟨sb, 13, none⟩ = some (.map (some s.mb)) := h.blk.cell 13
  have hlk := lookup_get h id
  cases hg : s.get id with
  | none =>
    have HG := hide hg
    rw [hg] at hlk
    simp only [Option.map_none, Option.getD_none, Option.isSome_none] at hlk
    clear h hg
    go_enter Tryz.func13, Tryz.ntmps13
    go_wp2_with fail
    go_ret
    exact ⟨10, s, rfl, .none HG.out, SStep.refl HB.out (Mod.refl _ _)⟩
  | some x =>
    have HG := hide hg
    obtain ⟨hx, hxid⟩ := Ss.get_mem hg
    have HX := hide hx
    have HXi := hide hxid
    rw [hg] at hlk
    simp only [Option.map_some, Option.getD_some, Option.isSome_some] at hlk
    have x2 : w.cell? ⟨x.xb, 2, none⟩ = some x.outV := (h.all x hx).blk.cell 2
    cases hxo : x.out with
    | none =>
      have x2' : w.cell? ⟨x.xb, 2, none⟩ = some (.pointer none) := by rw [x2]; unfold St.outV; rw [hxo]; rfl
      have HXo := hide hxo
      clear x2 h hg hx hxid hxo
      go_enter Tryz.func13, Tryz.ntmps13
      go_wp2_with fail
      go_ret
      exact ⟨1, s, rfl, .arg x HG.out HXo.out, SStep.refl HB.out (Mod.refl _ _)⟩
    | some p =>
      obtain ⟨b, dv, sv, o⟩ := p
      have x2' : w.cell? ⟨x.xb, 2, none⟩ = some (.pointer (some ⟨b, 0, none⟩)) := by rw [x2]; unfold St.outV; rw [hxo]; rfl
      have hob := (h.all x hx).out b dv sv o hxo
      have HXo := hide hxo
      have HD := hide (write_any w b o dv sv hob t fin ht)
      clear x2 h hg hx hxid hxo hob
      go_enter Tryz.func13, Tryz.ntmps13
      go_wp2_with fail
      refine HD.out.mono ?_
      rintro e w1 ⟨rfl, ho⟩
      have HO := hide ho
      clear ho
      go_wp2_with fail
      go_ret
      obtain ⟨dv', sv', hst⟩ := HB.out.outStep hw.ids HX.out HXo.out HO.out
      exact ⟨_, _, rfl, .goes x b dv sv dv' sv' o HG.out HXo.out, hst⟩
end Go.Proofs.YtjdfemfobcjecaaGreat

/-
  streams: resets, Reset, Stop.
-/
namespace Go.Proofs.YtjdfemfobcjecaaGreat
open Go.RowKit Go.Sort
set_option linter.unusedVariables false
set_option linter.unusedSimpArgs false
/-- a stream whose outbox is reset -/
def St.resetBy (x : St) (b : Nat) (dv sv : Value) (o : Ob) (code : Nat) : St :=
  if o.resetErr = 0 then { x.withOut b dv sv o.resetNow with final := o.resetAt, rst := ⟨code, true, true⟩ } else x.withOut b dv sv o.resetNow
set_option maxRecDepth 100000 in
set_option maxHeartbeats 4000000 in
theorem stresets_any (w : World) (sb : Nat) (s : Ss) (h : SBox w sb s) (hn : (s.l.map St.id).Nodup) (x : St) (hx : x ∈ s.l) (b : Nat) (dv sv : Value) (o : Ob) (hxo : x.out = some (b, dv, sv, o)) (code : Nat) :
    Calls Tryz.prog 31 #[.pointer (some ⟨x.xb, 0, none⟩), .int .u64 (code : Int)] w fun e w' => e = .returned (.int .i64 o.resetErr) ∧ ∃ dv' sv', SStep w sb s (s.put (x.resetBy b dv' sv' o code)) w' := by
  have HB := hide h
  have HX := hide hx
  have HXo := hide hxo
  have HN := hide hn
  have x2 : w.cell? ⟨x.xb, 2, none⟩ = some x.outV := (h.all x hx).blk.cell 2
  have x2' : w.cell? ⟨x.xb, 2, none⟩ = some (.pointer (some ⟨b, 0, none⟩)) := by rw [x2]; unfold St.outV; rw [hxo]; rfl
  have HD := hide (reset_any w b o dv sv ((h.all x hx).out b dv sv o hxo))
  clear x2 h hx hxo hn
  go_enter Tryz.func31, Tryz.ntmps31
  go_wp2_with fail
  refine HD.out.mono ?_
  rintro e w1 ⟨rfl, ho⟩
  obtain ⟨dv', sv', hst⟩ := HB.out.outStep HN.out HX.out HXo.out ho
  obtain ⟨ra, hra⟩ : ∃ ra, o.resetAt = ra := ⟨_, rfl⟩
  have HRa := hide hra
  have hx1 : x.withOut b dv' sv' o.resetNow ∈ (s.put (x.withOut b dv' sv' o.resetNow)).l := Ss.put_mem HX.out rfl
  have hb1 := (hst.1.all _ hx1).blk
  have hb1' : Blk w1 x.xb 83 (x.withOut b dv' sv' o.resetNow).cells := hb1
  have HB1 := hide hb1'
  have HSt := hide hst
  have HX1 := hide hx1
  rw [hra]
  have hre : o.resetErr = 0 ∨ o.resetErr = 22 := by unfold Ob.resetErr; split <;> simp
  clear ho hst hx1 hb1 hra
  rcases hre with hre | hre
  · have g7 : w1.frozen? ⟨x.xb, 11, none⟩ = false := hb1'.frozen 11
    have g8 : w1.frozen? ⟨x.xb, 8, none⟩ = false := hb1'.frozen 8
    have g9 : w1.frozen? ⟨x.xb, 9, none⟩ = false := hb1'.frozen 9
    have g10 : w1.frozen? ⟨x.xb, 10, none⟩ = false := hb1'.frozen 10
    have e8 : w1.cell? ⟨x.xb, 8, none⟩ = some (.int .u64 (x.rst.code : Int)) := hb1'.cell 8
    have e9 : w1.cell? ⟨x.xb, 9, none⟩ = some (.bool x.rst.told) := hb1'.cell 9
    have e10 : w1.cell? ⟨x.xb, 10, none⟩ = some (.bool x.rst.must) := hb1'.cell 10
    have e11 : w1.cell? ⟨x.xb, 11, none⟩ = some (.int .u64 (x.final : Int)) := hb1'.cell 11
    have hxl : x.xb < w1.heap.size := hb1'.lt
    have HRe := hide hre
    rw [hre]
    clear hb1' hre
    go_wp2_with fail
    go_ret
    refine ⟨by rw [HRe.out]; rfl, dv', sv', ?_⟩
    obtain ⟨x2, hx2⟩ : ∃ x2 : St, x2 = { x.withOut b dv' sv' o.resetNow with final := ra, rst := ⟨code, true, true⟩ } := ⟨_, rfl⟩
    have e : x.resetBy b dv' sv' o code = x2 := by rw [hx2]; unfold St.resetBy; rw [if_pos HRe.out, HRa.out]
    rw [e, ← Ss.put_put s (x.withOut b dv' sv' o.resetNow) x2 (by rw [hx2])]
    refine HSt.out.trans (SBox.cellStep HSt.out.1 (by rw [Ss.put_ids]; exact HN.out) HX1.out (x' := x2) ?_ ?_ (by rw [hx2]) (by rw [hx2]) (by rw [hx2]) (by rw [hx2]))
    · exact ((((Mod.refl [x.xb] w1).setCell (p := ⟨x.xb, 11, none⟩) (.inl (by simp)) _).setCell (p := ⟨x.xb, 8, none⟩) (.inl (by simp)) _).setCell (p := ⟨x.xb, 9, none⟩) (.inl (by simp)) _).setCell (p := ⟨x.xb, 10, none⟩) (.inl (by simp)) _
    · rw [hx2]
      exact (((HB1.out.set_ 11 (.int .u64 (ra : Int))).set_ 8 (.int .u64 (code : Int))).set_ 9 (.bool true)).set_ 10 (.bool true)
  · have HRe := hide hre
    rw [hre]
    clear hb1' hre
    go_wp2_with fail
    go_ret
    refine ⟨by rw [HRe.out]; rfl, dv', sv', ?_⟩
    have e : x.resetBy b dv' sv' o code = x.withOut b dv' sv' o.resetNow := by unfold St.resetBy; rw [if_neg (by rw [HRe.out]; decide)]
    rw [e]
    exact HSt.out
/-- what Reset does -/
inductive Ss.Resets (s : Ss) (id code : Nat) : Int → Ss → Prop
  | range (h : mvar < code) : s.Resets id code 3 s
  | none (hc : code ≤ mvar) (h : s.get id = none) : s.Resets id code 10 s
  | arg (hc : code ≤ mvar) (x : St) (h : s.get id = some x) (ho : x.out = none) : s.Resets id code 1 s
  | goes (hc : code ≤ mvar) (x : St) (b : Nat) (dv sv dv' sv' : Value) (o : Ob) (h : s.get id = some x) (ho : x.out = some (b, dv, sv, o)) : s.Resets id code o.resetErr (s.put (x.resetBy b dv' sv' o code))
/-- what Stop does -/
inductive Ss.Stops (s : Ss) (id code : Nat) : Int → Ss → Prop
  | range (h : mvar < code) : s.Stops id code 3 s
  | none (hc : code ≤ mvar) (h : s.get id = none) : s.Stops id code 10 s
  | arg (hc : code ≤ mvar) (x : St) (h : s.get id = some x) (ho : x.inn = none) : s.Stops id code 1 s
  | over (hc : code ≤ mvar) (x : St) (b m : Nat) (o : Ib) (h : s.get id = some x) (ho : x.inn = some (b, m, o)) (hv : o.over = true) : s.Stops id code 22 s
  | goes (hc : code ≤ mvar) (x : St) (b m : Nat) (o : Ib) (h : s.get id = some x) (ho : x.inn = some (b, m, o)) (hv : o.over = false) : s.Stops id code 0 (s.put { x with stop := ⟨code, true, true⟩ })
set_option maxRecDepth 100000 in
set_option maxHeartbeats 4000000 in
theorem streset_any (w : World) (sb : Nat) (s : Ss) (h : SBox w sb s) (hw : s.WF) (id : Nat) (code : Nat) :
    Calls Tryz.prog 41 #[.pointer (some ⟨sb, 0, none⟩), .int .u64 (id : Int), .int .u64 (code : Int)] w fun e w' => ∃ c s', e = .returned (.int .i64 c) ∧ s.Resets id code c s' ∧ SStep w sb s s' w' := by
  have HB := hide h
  have v13 : w.cell? ⟨sb, 13, none⟩ = some (.map (some s.mb)) := h.blk.cell 13
  have hlk := lookup_get h id
  by_cases hcode : mvar < code
  · have hc' : (code : Int) > 4611686018427387903 := by unfold mvar at hcode; omega
    clear h
    go_enter Tryz.func41, Tryz.ntmps41
    go_wp2_with fail
    go_ret
    exact ⟨3, s, rfl, .range hcode, SStep.refl HB.out (Mod.refl _ _)⟩
  have HC : Hid (code ≤ mvar) := hide (by omega)
  have hc' : ¬ ((code : Int) > 4611686018427387903) := by unfold mvar at hcode; omega
  clear hcode
  cases hg : s.get id with
  | none =>
    have HG := hide hg
    rw [hg] at hlk
    simp only [Option.map_none, Option.getD_none, Option.isSome_none] at hlk
    clear h hg
    go_enter Tryz.func41, Tryz.ntmps41
    go_wp2_with fail
    go_ret
    exact ⟨10, rfl, s, .none HC.out HG.out, SStep.refl HB.out (Mod.refl _ _)⟩
  | some x =>
    have HG := hide hg
    obtain ⟨hx, hxid⟩ := Ss.get_mem hg
    have HX := hide hx
    have HXi := hide hxid
    rw [hg] at hlk
    simp only [Option.map_some, Option.getD_some, Option.isSome_some] at hlk
    have x2 : w.cell? ⟨x.xb, 2, none⟩ = some x.outV := (h.all x hx).blk.cell 2
    cases hxo : x.out with
    | none =>
      have x2' : w.cell? ⟨x.xb, 2, none⟩ = some (.pointer none) := by rw [x2]; unfold St.outV; rw [hxo]; rfl
      have HXo := hide hxo
      clear x2 h hg hx hxid hxo
      go_enter Tryz.func41, Tryz.ntmps41
      go_wp2_with fail
      go_ret
      exact ⟨1, rfl, s, .arg HC.out x HG.out HXo.out, SStep.refl HB.out (Mod.refl _ _)⟩
    | some p =>
      obtain ⟨b, dv, sv, o⟩ := p
      have x2' : w.cell? ⟨x.xb, 2, none⟩ = some (.pointer (some ⟨b, 0, none⟩)) := by rw [x2]; unfold St.outV; rw [hxo]; rfl
      have hob := (h.all x hx).out b dv sv o hxo
      have HXo := hide hxo
      have HD := hide (stresets_any w sb s h hw.ids x hx b dv sv o hxo code)
      clear x2 h hg hx hxid hxo hob
      go_enter Tryz.func41, Tryz.ntmps41
      go_wp2_with fail
      refine HD.out.mono ?_
      rintro e w1 ⟨rfl, dv', sv', ho⟩
      have HO := hide ho
      clear ho
      go_wp2_with fail
      go_ret
      exact ⟨_, _, rfl, .goes HC.out x b dv sv dv' sv' o HG.out HXo.out, HO.out⟩
set_option maxRecDepth 100000 in
set_option maxHeartbeats 4000000 in
theorem ststop_any (w : World) (sb : Nat) (s : Ss) (h : SBox w sb s) (hw : s.WF) (id : Nat) (code : Nat) :
    Calls Tryz.prog 42 #[.pointer (some ⟨sb, 0, none⟩), .int .u64 (id : Int), .int .u64 (code : Int)] w fun e w' => ∃ c s', e = .returned (.int .i64 c) ∧ s.Stops id code c s' ∧ SStep w sb s s' w' := by
  have HB := hide h
  have v13 : w.cell? ⟨sb, 13, none⟩ = some (.map (some s.mb)) := h.blk.cell 13
  have hlk := lookup_get h id
  by_cases hcode : mvar < code
  · have hc' : (code : Int) > 4611686018427387903 := by unfold mvar at hcode; omega
    clear h
    go_enter Tryz.func42, Tryz.ntmps42
    go_wp2_with fail
    go_ret
    exact ⟨3, s, rfl, .range hcode, SStep.refl HB.out (Mod.refl _ _)⟩
  have HC : Hid (code ≤ mvar) := hide (by omega)
  have hc' : ¬ ((code : Int) > 4611686018427387903) := by unfold mvar at hcode; omega
  clear hcode
  cases hg : s.get id with
  | none =>
    have HG := hide hg
    rw [hg] at hlk
    simp only [Option.map_none, Option.getD_none, Option.isSome_none] at hlk
    clear h hg
    go_enter Tryz.func42, Tryz.ntmps42
    go_wp2_with fail
    go_ret
    exact ⟨10, rfl, s, .none HC.out HG.out, SStep.refl HB.out (Mod.refl _ _)⟩
  | some x =>
    have HG := hide hg
    obtain ⟨hx, hxid⟩ := Ss.get_mem hg
    have HX := hide hx
    have HXi := hide hxid
    rw [hg] at hlk
    simp only [Option.map_some, Option.getD_some, Option.isSome_some] at hlk
    have x2 : w.cell? ⟨x.xb, 1, none⟩ = some x.inV := (h.all x hx).blk.cell 1
    cases hxo : x.inn with
    | none =>
      have x2' : w.cell? ⟨x.xb, 1, none⟩ = some (.pointer none) := by rw [x2]; unfold St.inV; rw [hxo]; rfl
      have HXo := hide hxo
      clear x2 h hg hx hxid hxo
      go_enter Tryz.func42, Tryz.ntmps42
      go_wp2_with fail
      go_ret
      exact ⟨1, rfl, s, .arg HC.out x HG.out HXo.out, SStep.refl HB.out (Mod.refl _ _)⟩
    | some p =>
      obtain ⟨b, m, o⟩ := p
      have x2' : w.cell? ⟨x.xb, 1, none⟩ = some (.pointer (some ⟨b, 0, none⟩)) := by rw [x2]; unfold St.inV; rw [hxo]; rfl
      have hob := (h.all x hx).inn b m o hxo
      have HXo := hide hxo
      have HD := hide (iover_any w b m o hob)
      have hxb := (h.all x hx).blk
      have HXb := hide hxb
      have g5 : w.frozen? ⟨x.xb, 5, none⟩ = false := hxb.frozen 5
      have g6 : w.frozen? ⟨x.xb, 6, none⟩ = false := hxb.frozen 6
      have g7 : w.frozen? ⟨x.xb, 7, none⟩ = false := hxb.frozen 7
      have e5 : w.cell? ⟨x.xb, 5, none⟩ = some (.int .u64 (x.stop.code : Int)) := hxb.cell 5
      have e6 : w.cell? ⟨x.xb, 6, none⟩ = some (.bool x.stop.told) := hxb.cell 6
      have e7 : w.cell? ⟨x.xb, 7, none⟩ = some (.bool x.stop.must) := hxb.cell 7
      have hxl : x.xb < w.heap.size := hxb.lt
      cases hov : o.over with
      | true =>
        have HOv := hide hov
        rw [hov] at HD
        clear x2 h hg hx hxid hxo hob hov hxb
        go_enter Tryz.func42, Tryz.ntmps42
        go_wp2_with fail
        refine HD.out.mono ?_
        rintro e w1 ⟨rfl, n1, rfl⟩
        go_wp2_with fail
        go_ret
        exact ⟨_, s, rfl, .over HC.out x b m o HG.out HXo.out HOv.out, SStep.refl HB.out ((Mod.refl [] w).drewN n1)⟩
      | false =>
        have HOv := hide hov
        rw [hov] at HD
        clear x2 h hg hx hxid hxo hob hov hxb
        go_enter Tryz.func42, Tryz.ntmps42
        go_wp2_with fail
        refine HD.out.mono ?_
        rintro e w1 ⟨rfl, n1, rfl⟩
        go_wp2_with fail
        go_ret
        refine ⟨_, _, rfl, .goes HC.out x b m o HG.out HXo.out HOv.out, (SStep.refl HB.out ((Mod.refl [] w).drewN n1)).trans (SBox.cellStep (HB.out.new ((Mod.refl [] w).drewN n1)) hw.ids HX.out (x' := { x with stop := ⟨code, true, true⟩ }) ?_ ?_ rfl rfl rfl rfl)⟩
        · exact (((Mod.refl [x.xb] (w.drewN n1)).setCell (p := ⟨x.xb, 5, none⟩) (.inl (by simp)) _).setCell (p := ⟨x.xb, 6, none⟩) (.inl (by simp)) _).setCell (p := ⟨x.xb, 7, none⟩) (.inl (by simp)) _
        · have hb : Blk (w.drewN n1) x.xb 83 x.cells := HXb.out
          exact ((hb.set_ 5 (.int .u64 (code : Int))).set_ 6 (.bool true)).set_ 7 (.bool true)
end Go.Proofs.YtjdfemfobcjecaaGreat
