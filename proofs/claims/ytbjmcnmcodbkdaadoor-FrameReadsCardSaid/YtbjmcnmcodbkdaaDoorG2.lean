/-
  Contracts and plain laws that the proofs of this seat share, part 2 of 8: FrC, App, Fr, FrRd, FrRdN, FrSame, Cells, FrShape, FrClear, FrNum.
-/
import Derived.Test.YtbjmcnmcodbkdaaDoorG1
import Derived.Test.YtbjmcnmcodbkdaaDoorProg
import Derived.Outline
import Derived.Laws.ResultCell
import Derived.Lib.ConvBytes

/-
  frames, plain: what is read is written as it was.
-/
namespace Go.Proofs.YtbjmcnmcodbkdaaDoor
open Go.RowKit

theorem ofList_size (l : List UInt8) : (⟨l.toArray⟩ : ByteArray).size = l.length := rfl
theorem ofList_list (l : List UInt8) : (⟨l.toArray⟩ : ByteArray).data.toList = l := rfl
theorem getD_take3 {ns : List Nat} {n : Nat} (hl : ns.length = n) (hn : n ≤ 3) : [ns.getD 0 0, ns.getD 1 0, ns.getD 2 0].take n = ns := by
  match n, hn, ns, hl with
  | 0, _, [], _ => rfl
  | 1, _, [_], _ => rfl
  | 2, _, [_, _], _ => rfl
  | 3, _, [_, _, _], _ => rfl
theorem pshape_some {k : Nat} {sh : Shp} {s r : List UInt8} {f : Fr} (hn : sh.n ≤ 3) (h : pshape k sh s = some (f, r)) : f.kind = k ∧ s = fnums sh.n f ++ (ftail sh f ++ r) := by
  unfold pshape at h
  obtain ⟨⟨ns, t⟩, h1, h2⟩ := Option.bind_eq_some_iff.1 h
  obtain ⟨h3, rfl, h5⟩ := pnums_some _ _ _ _ h1
  have hg := getD_take3 h3 hn
  simp only at h2
  unfold fnums ftail
  split at h2
  · rename_i ht
    obtain ⟨⟨d, r2⟩, h6, h7⟩ := Option.map_eq_some_iff.1 h2
    simp only [Prod.mk.injEq] at h7
    obtain ⟨rfl, rfl⟩ := h7
    obtain ⟨rfl, _⟩ := ptext_some h6
    simp only
    rw [hg, if_pos ht]
    unfold ftext
    rw [ofList_size]
    simp
  · rename_i ht
    split at h2
    · rename_i hx
      obtain ⟨⟨d, r2⟩, h6, h7⟩ := Option.map_eq_some_iff.1 h2
      simp only [Prod.mk.injEq] at h7
      obtain ⟨rfl, rfl⟩ := h7
      obtain ⟨rfl, _⟩ := ptake_some h6
      simp only
      rw [hg, if_neg ht, if_pos hx]
      simp
    · rename_i hx
      cases h2
      simp only
      rw [hg, if_neg ht, if_neg hx]
      simp
theorem be_list_length (m : Nat) : (⟨(be m 8).toArray⟩ : ByteArray).size = 8 := be_length m 8
theorem num_be {m : Nat} (h : m < 4611686018427387904) : numF 0 (be m 8) = m := by
  rw [numF_be]
  have : (256 : Nat) ^ 8 = 18446744073709551616 := by decide
  rw [Nat.zero_mul, Nat.zero_add, this]
  omega
theorem pframe_some {s r : List UInt8} {f : Fr} (h : pframe s = some (f, r)) (hm : fmay f = true) : s = fbytes f ++ r ∧ NoZero f r := by
  unfold pframe at h
  obtain ⟨⟨k, u⟩, h1, h2⟩ := Option.bind_eq_some_iff.1 h
  obtain ⟨rfl, hk⟩ := pnum_some h1
  simp only at h2
  cases hs : fshape k with
  | some sh =>
    rw [hs] at h2
    simp only at h2
    obtain ⟨h3, h4, h5⟩ := fshape_lt hs
    obtain ⟨rfl, rfl⟩ := pshape_some h4 h2
    refine ⟨?_, fun h0 => absurd h0 h5⟩
    unfold fbytes
    rw [hs]
    simp
  | none =>
    rw [hs] at h2
    simp only at h2
    split at h2
    · rename_i hk0
      subst hk0
      cases h2
      obtain ⟨z, hz⟩ : ∃ z, min (zeros u) 16383 = z := ⟨_, rfl⟩
      rw [hz]
      refine ⟨?_, fun _ => ?_⟩
      · unfold fbytes
        rw [shape_none (.inl rfl)]
        simp only
        unfold fway
        rw [if_pos rfl]
        simp only
        rw [List.replicate_succ, vputS0]
        show 0 :: u = 0 :: (List.replicate z 0 ++ u.drop z)
        congr 1
        rw [← zeros_take u z (by omega), List.take_append_drop]
      · simp only
        by_cases h6 : zeros u ≤ 16383
        · right
          have : u = List.replicate z 0 ++ u.drop z := by rw [← zeros_take u z (by omega), List.take_append_drop]
          have h7 := congrArg zeros this
          rw [zeros_app] at h7
          omega
        · left; omega
    · rename_i hk0
      split at h2
      · rename_i hk2
        unfold packed at h2
        obtain ⟨⟨⟨a, l⟩, v⟩, h3, h4⟩ := Option.bind_eq_some_iff.1 h2
        obtain ⟨q, t, rfl, ha, hr, rfl⟩ := packs_some h3
        simp only at h4
        split at h4
        · rename_i hk3
          obtain ⟨⟨b, v1⟩, h5, h6⟩ := Option.bind_eq_some_iff.1 h4
          obtain ⟨rfl, hb⟩ := pnum_some h5
          obtain ⟨⟨c, v2⟩, h7, h8⟩ := Option.bind_eq_some_iff.1 h6
          obtain ⟨rfl, hc⟩ := pnum_some h7
          obtain ⟨⟨m, v3⟩, h9, h10⟩ := Option.map_eq_some_iff.1 h8
          obtain ⟨rfl, hmm⟩ := pnum_some h9
          simp only [Prod.mk.injEq] at h10
          obtain ⟨rfl, rfl⟩ := h10
          refine ⟨?_, fun h0 => absurd h0 hk0⟩
          unfold fbytes
          simp only
          rw [hs]
          simp only
          unfold fway
          simp only
          rw [if_neg hk0, if_neg (by omega), if_neg (by omega)]
          unfold fack
          simp only
          rw [if_pos hk3, num_be hmm]
          simp
        · rename_i hk3
          cases h4
          refine ⟨?_, fun h0 => absurd h0 hk0⟩
          unfold fbytes
          simp only
          rw [hs]
          simp only
          unfold fway
          simp only
          rw [if_neg hk0, if_neg (by omega), if_neg (by omega)]
          unfold fack
          simp only
          rw [if_neg hk3]
          simp
      · rename_i hk2
        split at h2
        · rename_i hk8
          unfold pstream at h2
          obtain ⟨⟨a, v⟩, h3, h4⟩ := Option.bind_eq_some_iff.1 h2
          obtain ⟨rfl, ha⟩ := pnum_some h3
          obtain ⟨⟨b, v1⟩, h5, h6⟩ := Option.bind_eq_some_iff.1 h4
          simp only at h5 h6
          split at h6
          · cases h6
          · rename_i hl
            obtain ⟨⟨d, v2⟩, h7, h8⟩ := Option.map_eq_some_iff.1 h6
            obtain ⟨rfl, hd⟩ := ptext_some h7
            simp only [Prod.mk.injEq] at h8
            obtain ⟨rfl, rfl⟩ := h8
            refine ⟨?_, fun h0 => absurd h0 (by simp)⟩
            unfold fbytes
            simp only
            rw [shape_none (by omega)]
            simp only
            unfold fway
            simp only
            rw [if_neg (by omega), if_pos trivial]
            unfold fstream ftext
            simp only
            rw [ofList_size]
            by_cases h4 : k / 4 % 2 = 1
            · rw [if_pos h4] at h5
              obtain ⟨⟨b', v3⟩, h9, h10⟩ := Option.bind_eq_some_iff.1 h5
              obtain ⟨rfl, hb⟩ := pnum_some h9
              simp only at h10
              split at h10
              · cases h10
              · rename_i hb0
                cases h10
                have hk : 10 + (if b = 0 then 0 else 4) + (if decide (k % 2 = 1) = true then 1 else 0) = k := by
                  rw [if_neg hb0]
                  by_cases h1 : k % 2 = 1
                  · rw [decide_eq_true h1, if_pos rfl]; omega
                  · rw [decide_eq_false h1, if_neg (by simp)]; omega
                rw [hk, if_neg hb0]
                simp
            · rw [if_neg h4] at h5
              cases h5
              have hk : 10 + (if (0 : Nat) = 0 then 0 else 4) + (if decide (k % 2 = 1) = true then 1 else 0) = k := by
                rw [if_pos rfl]
                by_cases h1 : k % 2 = 1
                · rw [decide_eq_true h1, if_pos rfl]; omega
                · rw [decide_eq_false h1, if_neg (by simp)]; omega
              rw [hk, if_pos rfl]
              simp
        · rename_i hk8
          split at h2
          · rename_i hk24
            subst hk24
            unfold pcid at h2
            obtain ⟨⟨a, v⟩, h3, h4⟩ := Option.bind_eq_some_iff.1 h2
            obtain ⟨rfl, ha⟩ := pnum_some h3
            obtain ⟨⟨b, v1⟩, h5, h6⟩ := Option.bind_eq_some_iff.1 h4
            obtain ⟨rfl, hb⟩ := pnum_some h5
            simp only at h6
            cases v1 with
            | nil => cases h6
            | cons n t =>
              simp only at h6
              obtain ⟨⟨d, v2⟩, h7, h8⟩ := Option.bind_eq_some_iff.1 h6
              obtain ⟨rfl, hd⟩ := ptake_some h7
              obtain ⟨⟨m, v3⟩, h9, h10⟩ := Option.map_eq_some_iff.1 h8
              obtain ⟨rfl, hm2⟩ := ptake_some h9
              simp only [Prod.mk.injEq] at h10
              obtain ⟨rfl, rfl⟩ := h10
              refine ⟨?_, fun h0 => absurd h0 (by simp)⟩
              unfold fbytes
              simp only
              rw [shape_none (by omega)]
              simp only
              unfold fway
              simp only
              rw [if_neg (by omega), if_neg (by omega), if_pos trivial]
              unfold fcid
              simp only
              rw [ofList_size, hd]
              simp
          · cases h2

/-- THE LAW: read is what was written -/
theorem fread_put {f : Fr} (h : fmay f = true) (r : List UInt8) (hz : NoZero f r) : fread (fbytes f ++ r) = some (f, r) := by
  unfold fread
  rw [pframe_put h r hz]
  simp [h]
theorem fread_some {s r : List UInt8} {f : Fr} (h : fread s = some (f, r)) : fmay f = true ∧ s = fbytes f ++ r ∧ NoZero f r := by
  unfold fread at h
  obtain ⟨⟨f', r'⟩, h1, h2⟩ := Option.bind_eq_some_iff.1 h
  simp only at h2
  split at h2
  · rename_i hm
    cases h2
    exact ⟨hm, (pframe_some h1 hm).1, (pframe_some h1 hm).2⟩
  · cases h2
end Go.Proofs.YtbjmcnmcodbkdaaDoor

/-
  append of one element, of any element type, to a slice of one's own.
-/
namespace Go.Proofs.YtbjmcnmcodbkdaaDoor
open Go.RowKit

theorem info_split {P : Program} {e : TypeId} {z : Value} {size bytes : Nat} (h : (P.info? e).map (fun i => (i.zero, i.size, i.bytes)) = some (some z, size, bytes)) :
    ∃ i, P.info? e = some i ∧ i.zero = some z ∧ i.size = size ∧ i.bytes = bytes := by
  obtain ⟨i, hi, hzz⟩ := Option.map_eq_some_iff.1 h
  simp only [Prod.mk.injEq] at hzz
  exact ⟨i, hi, hzz.1, hzz.2.1, hzz.2.2⟩
theorem owned_slice {w : World} {base : Nat} {e : TypeId} {size n : Nat} {v : Value} {xs : List Value} (h : w.ownsRow base e size v n xs) : ∃ A c, v = .slice A n c := by
  rcases h.2 with ⟨rfl, rfl⟩ | ⟨g, cap, cur, rfl, _⟩
  · exact ⟨_, _, rfl⟩
  · exact ⟨_, _, rfl⟩
theorem app_one {P : Program} {T e : TypeId} {z : Value} {size bytes : Nat} (hT : P.underlying T = some (.slice e)) (hinfo : (P.info? e).map (fun i => (i.zero, i.size, i.bytes)) = some (some z, size, bytes)) (hzs : z.cells.size = size)
    (w : World) (ty : TypeId) (base : Nat) (v : Value) (n : Nat) (xs : List Value) (h : w.ownsRow base e size v n xs) (hbase : base ≤ w.heap.size) (news : List Value) (hnl : news.length = size) (hone : ∀ u ∈ news, u.oneCell' = true)
    (hb : (n + 1) * bytes ≤ 140737488355328) (hb63 : n < 9223372036854775807) (g : Nat) (hc : ∀ j u, news[j]? = some u → w.cell? ⟨g, j, none⟩ = some u) :
    ∃ A c w', (Builtin.append_ #[T, T] ty #[v, .slice (some ⟨g, 0, none⟩) 1 1]).run P w = .ok (.slice A (n + 1) c) w' ∧ w'.ownsRow base e size (.slice A (n + 1) c) (n + 1) (xs ++ news) ∧ Mod v.ownBlock.toList w w' ∧
      ((Value.slice A (n + 1) c).ownBlock = v.ownBlock ∨ (Value.slice A (n + 1) c).ownBlock = some w.heap.size) := by
  obtain ⟨i0, hi, hz0, hz1, hz2⟩ := info_split hinfo
  have hsrc : Src P size T (.slice (some ⟨g, 0, none⟩) 1 1) 1 news w := Src.ofSlice w hT _ 1 1 _ (by rw [hnl]; omega) (fun j u hu => by
    have := hc j u hu
    rwa [Addr.add_lit, Nat.zero_add]) hone
  obtain ⟨v', w', h1, h2, h3, h4⟩ := run_app (P := P) ty base hi hz1 hzs v n _ h (AppSrc.of_src hT hi hz0 hz1 hsrc) (by simp only [maxLen]; omega) (by rw [hz2]; exact hb) hbase
  obtain ⟨A, c, rfl⟩ := owned_slice h2
  exact ⟨A, c, w', h1, h2, Mod.of_grown h3, h4⟩
/-- an owned row, in a world in which nothing older turned -/
theorem Mod.keep {a w w' : World} {v : Value} {base : Nat} {e : TypeId} {size n : Nat} {xs : List Value} (h : Mod [] a w) (hm : Mod v.ownBlock.toList w w') (ho : w.ownsRow base e size v n xs) (hb : a.heap.size ≤ base) : Mod [] a w' :=
  h.trans hm (fun x hx => by
    right
    simp at hx
    have := (ho.lt x hx).1
    omega)
end Go.Proofs.YtbjmcnmcodbkdaaDoor

/-
  frames in memory; slices.Equal of ranges; Same.
-/
namespace Go.Proofs.YtbjmcnmcodbkdaaDoor
open Go.RowKit

/-- the slice at A, of n ranges, reads as l -/
def Rngs (w : World) (A : Option Addr) (n : Nat) (l : List (Nat × Nat)) : Prop :=
  l.length = n ∧ n ≤ 4611686018427387904 ∧ (n = 0 ∨ ∃ g o, A = some ⟨g, o, none⟩ ∧ g < w.heap.size ∧ ∀ i x, l[i]? = some x → w.cell? ⟨g, o + i * 2, none⟩ = some (.int .u64 (x.1 : Nat)) ∧ w.cell? ⟨g, o + i * 2 + 1, none⟩ = some (.int .u64 (x.2 : Nat)))
def fcs (A : Option Addr) (n c : Nat) (f : Fr) : Array Value := #[.int .u64 (f.kind : Nat), .int .u64 (f.a : Nat), .int .u64 (f.b : Nat), .int .u64 (f.c : Nat), .bool f.fin, .string f.data, .string f.more, .slice A n c]
def fval (A : Option Addr) (n c : Nat) (f : Fr) : Value := .agg (fcs A n c f)
theorem Rngs.nil (w : World) : Rngs w none 0 [] := ⟨rfl, by omega, .inl rfl⟩
theorem Rngs.mod {F : List Nat} {w w' : World} {A : Option Addr} {n : Nat} {l : List (Nat × Nat)} (h : Rngs w A n l) (hm : Mod F w w') (hF : ∀ g o, A = some ⟨g, o, none⟩ → g ∉ F) : Rngs w' A n l := by
  refine ⟨h.1, h.2.1, ?_⟩
  rcases h.2.2 with h0 | ⟨g, o, hA, hg, hc⟩
  · exact .inl h0
  · refine .inr ⟨g, o, hA, Nat.lt_of_lt_of_le hg hm.size, fun i x hx => ?_⟩
    obtain ⟨h1, h2⟩ := hc i x hx
    exact ⟨(hm.cell (p := ⟨g, o + i * 2, none⟩) hg (hF g o hA)).trans h1, (hm.cell (p := ⟨g, o + i * 2 + 1, none⟩) hg (hF g o hA)).trans h2⟩
theorem Rngs.new {w w' : World} {A : Option Addr} {n : Nat} {l : List (Nat × Nat)} (h : Rngs w A n l) (hm : Mod [] w w') : Rngs w' A n l := h.mod hm (by simp)
/-- the i-th range -/
theorem Rngs.at_ {w : World} {A : Option Addr} {n : Nat} {l : List (Nat × Nat)} (h : Rngs w A n l) {i : Nat} (hi : i < n) :
    ∃ g o, ∃ hl : i < l.length, A = some ⟨g, o, none⟩ ∧ g < w.heap.size ∧ w.cell? ⟨g, o + i * 2, none⟩ = some (.int .u64 (l[i].1 : Nat)) ∧ w.cell? ⟨g, o + i * 2 + 1, none⟩ = some (.int .u64 (l[i].2 : Nat)) := by
  rcases h.2.2 with h0 | ⟨g, o, hA, hg, hc⟩
  · omega
  · have hl : i < l.length := by have := h.1; omega
    obtain ⟨h1, h2⟩ := hc i _ (List.getElem?_eq_getElem hl)
    exact ⟨g, o, hl, hA, hg, h1, h2⟩

set_option maxRecDepth 100000 in
set_option maxHeartbeats 4000000 in
theorem requal_any (w : World) (A B : Option Addr) (n m c d : Nat) (l k : List (Nat × Nat)) (hl : Rngs w A n l) (hk : Rngs w B m k) (v : Bool) (hv : decide (l = k) = v) :
    Calls Tryd.prog 42 #[.slice A n c, .slice B m d] w fun e w' => e = .returned (.bool v) ∧ ∃ q, w' = w.drewN q := by
  have hn1 := hl.2.1
  have hm1 := hk.2.1
  by_cases hnm : n = m
  · subst hnm
    have hpre : ∀ j, (∀ i (h1 : i < l.length) (h2 : i < k.length), i < j → l[i] = k[i]) → ∀ h1 : j < l.length, ∀ h2 : j < k.length, l[j] ≠ k[j] → v = false := fun j _ h1 h2 hne => by
      rw [← hv]
      refine decide_eq_false (fun e => hne ?_)
      subst e; rfl
    have hfin : (∀ i (h1 : i < l.length) (h2 : i < k.length), i < n → l[i] = k[i]) → v = true := fun h => by
      rw [← hv]
      refine decide_eq_true ?_
      apply List.ext_getElem
      · rw [hl.1, hk.1]
      · intro i h1 h2
        exact h i h1 h2 (by have := hl.1; omega)
    have HPre := hide hpre
    have HFin := hide hfin
    have HL := hide hl
    have HK := hide hk
    clear hpre hfin hl hk hv
    go_enter Tryd.func42, Tryd.ntmps42
    go_wp2_with fail
    go_loopw [13] (fun iv wr => ∃ j : Nat, j ≤ n ∧ iv = .int .i64 (j : Int) ∧ Hid (∀ i (h1 : i < l.length) (h2 : i < k.length), i < j → l[i] = k[i]) ∧ ∃ q, wr = w.drewN q) (fun iv _ => n - (intOf iv).toNat)
    case atStart => exact ⟨0, by omega, rfl, hide (fun i h1 h2 h3 => by omega), 0, rfl⟩
    case round =>
      obtain ⟨j, hj, rfl, hC, q, rfl⟩ := hrel
      by_cases h : j < n
      · obtain ⟨g, o, hjl, rfl, hgl, c0, c1⟩ := HL.out.at_ h
        obtain ⟨g', o', hjk, rfl, hgl', d0, d1⟩ := HK.out.at_ h
        have hbad := HPre.out j hC.out hjl hjk
        have hnext : l[j] = k[j] → ∀ i (h1 : i < l.length) (h2 : i < k.length), i < j + 1 → l[i] = k[i] := fun he i h1 h2 h3 => by
          by_cases e : i = j
          · subst e; exact he
          · exact hC.out i h1 h2 (by omega)
        obtain ⟨x, hx⟩ : ∃ x, l[j] = x := ⟨_, rfl⟩
        obtain ⟨y, hy⟩ : ∃ x, k[j] = x := ⟨_, rfl⟩
        rw [hx] at c0 c1 hbad hnext
        rw [hy] at d0 d1 hbad hnext
        obtain ⟨x1, x2⟩ := x
        obtain ⟨y1, y2⟩ := y
        simp only at c0 c1 d0 d1
        have HBad := hide hbad
        have HNext := hide hnext
        clear hx hy hbad hnext hC hjl hjk
        by_cases h1 : x1 = y1
        · subst h1
          by_cases h2 : x2 = y2
          · subst h2
            have HN := hide (HNext.out rfl)
            clear HBad HNext
            go_wp2_with fail
            go_quiet (fail)
            go_wp2_with fail
            go_roundw
            case rel => exact ⟨j + 1, by omega, by go_num, HN, by first | exact ⟨_, rfl⟩ | exact ⟨_, World.drewN_drewN _ _ _⟩⟩
            case measure => simp [intOf]; omega
          · have hvf := HBad.out (fun e => h2 (by cases e; rfl))
            have b1 : ((x2 : Int) == (y2 : Int)) = false := by simp; omega
            have b2 : (x2 == y2) = false := by simpa using h2
            have HV := hide hvf
            clear HBad HNext hvf
            go_wp2_with fail
            go_quiet (fail)
            go_wp2_with fail
            go_ret
            exact ⟨by rw [HV.out]; rfl, by first | exact ⟨_, rfl⟩ | exact ⟨_, World.drewN_drewN _ _ _⟩⟩
        · have hvf := HBad.out (fun e => h1 (by cases e; rfl))
          have b1 : ((x1 : Int) == (y1 : Int)) = false := by simp; omega
          have b2 : (x1 == y1) = false := by simpa using h1
          have HV := hide hvf
          clear HBad HNext hvf
          go_wp2_with fail
          go_quiet (fail)
          go_wp2_with fail
          go_ret
          exact ⟨by rw [HV.out]; rfl, by first | exact ⟨_, rfl⟩ | exact ⟨_, World.drewN_drewN _ _ _⟩⟩
      · have hjn : j = n := by omega
        subst hjn
        have hvt := HFin.out hC.out
        have HV := hide hvt
        clear hvt hC
        go_wp2_with fail
        go_ret
        exact ⟨by rw [HV.out]; rfl, _, rfl⟩
  · have hvf : v = false := by
      rw [← hv]
      refine decide_eq_false (fun e => hnm ?_)
      rw [← hl.1, ← hk.1, e]
    have b1 : ((n : Int) != (m : Int)) = true := by simp; omega
    have b2 : (n != m) = true := by simpa using hnm
    have HV := hide hvf
    clear hv hl hk hvf
    go_enter Tryd.func42, Tryd.ntmps42
    go_wp2_with fail
    go_ret
    exact ⟨by rw [HV.out]; rfl, 0, rfl⟩
end Go.Proofs.YtbjmcnmcodbkdaaDoor

/-
  frames, plain: the reader, step by step, with what it may still read (none: something was wrong).
-/
namespace Go.Proofs.YtbjmcnmcodbkdaaDoor
open Go.RowKit

abbrev RS := Option (List UInt8)
def rnum : RS → Nat × RS
  | none => (0, none)
  | some s => match pnum s with | some x => (x.1, some x.2) | none => (0, none)
def rtake (n : Nat) : RS → List UInt8 × RS
  | none => ([], none)
  | some s => if n ≤ s.length then (s.take n, some (s.drop n)) else ([], none)
def rtext (st : RS) : List UInt8 × RS := rtake (rnum st).1 (rnum st).2
theorem rnum_some {s : List UInt8} {x : Nat × List UInt8} (h : pnum s = some x) : rnum (some s) = (x.1, some x.2) := by simp only [rnum, h]
theorem rnum_fail {s : List UInt8} (h : pnum s = none) : rnum (some s) = (0, none) := by simp only [rnum, h]
theorem rnum_lt (st : RS) : (rnum st).1 < 4611686018427387904 := by
  cases st with
  | none => simp [rnum]
  | some s =>
    cases h : pnum s with
    | none => rw [rnum_fail h]; simp
    | some x => rw [rnum_some h]; exact (pnum_some (n := x.1) (r := x.2) h).2
theorem rtake_some {n : Nat} {s : List UInt8} {x : List UInt8 × List UInt8} (h : ptake n s = some x) : rtake n (some s) = (x.1, some x.2) := by
  unfold ptake at h
  split at h
  · rename_i hn
    cases h
    simp only [rtake, if_pos hn]
  · cases h
theorem rtake_fail {n : Nat} {s : List UInt8} (h : ptake n s = none) : rtake n (some s) = ([], none) := by
  unfold ptake at h
  split at h
  · cases h
  · rename_i hn
    simp only [rtake, if_neg hn]
theorem rtext_some {s : List UInt8} {x : List UInt8 × List UInt8} (h : ptext s = some x) : rtext (some s) = (x.1, some x.2) := by
  unfold ptext at h
  obtain ⟨y, h1, h2⟩ := Option.bind_eq_some_iff.1 h
  unfold rtext
  rw [rnum_some h1]
  exact rtake_some h2
theorem rtext_fail {s : List UInt8} (h : ptext s = none) : rtext (some s) = ([], none) := by
  unfold ptext at h
  unfold rtext
  cases h1 : pnum s with
  | none => rw [rnum_fail h1]; rfl
  | some y =>
    rw [h1] at h
    rw [rnum_some h1]
    exact rtake_fail h

/-- ranges: so many more behind this one -/
def rrng : Nat → Nat → Fr → RS → Fr × RS
  | _, _, f, none => (f, none)
  | 0, high, f, some s => if high < (rnum (some s)).1 then (f, none) else ({ f with list := f.list ++ [(high - (rnum (some s)).1, high)] }, (rnum (some s)).2)
  | k + 1, high, f, some s => if high < (rnum (some s)).1 then (f, none) else
      if high - (rnum (some s)).1 < (rnum (rnum (some s)).2).1 + 2 then ({ f with list := f.list ++ [(high - (rnum (some s)).1, high)] }, none)
      else rrng k (high - (rnum (some s)).1 - (rnum (rnum (some s)).2).1 - 2) { f with list := f.list ++ [(high - (rnum (some s)).1, high)] } (rnum (rnum (some s)).2).2
theorem rrng_none (k high : Nat) (f : Fr) : rrng k high f none = (f, none) := by cases k <;> rfl
theorem ite_none {c : Prop} [Decidable c] {a b : Fr × RS} (ha : a.2 = none) (hb : b.2 = none) : (if c then a else b).2 = none := by
  split
  · exact ha
  · exact hb
theorem rrng_some : ∀ (k high : Nat) (f : Fr) (s : List UInt8), match prng k high s with
    | some x => rrng k high f (some s) = ({ f with list := f.list ++ x.1 }, some x.2)
    | none => (rrng k high f (some s)).2 = none
  | 0, high, f, s => by
    unfold prng rrng
    cases h : pnum s with
    | none => rw [rnum_fail h]; simp
    | some x =>
      rw [rnum_some h]
      simp only [Option.bind_some]
      by_cases h1 : high < x.1
      · simp [h1]
      · rw [if_neg h1, if_neg h1]
  | k + 1, high, f, s => by
    unfold prng rrng
    cases h : pnum s with
    | none =>
      rw [rnum_fail h]
      exact ite_none rfl (ite_none rfl (congrArg Prod.snd (rrng_none _ _ _)))
    | some x =>
      rw [rnum_some h]
      simp only [Option.bind_some]
      by_cases h1 : high < x.1
      · simp [h1]
      · rw [if_neg h1, if_neg h1]
        cases h2 : pnum x.2 with
        | none =>
          rw [rnum_fail h2]
          exact ite_none rfl (congrArg Prod.snd (rrng_none _ _ _))
        | some y =>
          rw [rnum_some h2]
          simp only [Option.bind_some]
          by_cases h3 : high - x.1 < y.1 + 2
          · simp [h3]
          · rw [if_neg h3, if_neg h3]
            have ih := rrng_some k (high - x.1 - y.1 - 2) { f with list := f.list ++ [(high - x.1, high)] } y.2
            cases h4 : prng k (high - x.1 - y.1 - 2) y.2 with
            | none => rw [h4] at ih; exact ih
            | some z =>
              rw [h4] at ih
              simp only [Option.map_some] at ih ⊢
              rw [ih]
              simp
def rranges (f : Fr) (st : RS) : Fr × RS :=
  if 64 ≤ (rnum (rnum (rnum st).2).2).1 then ({ f with a := (rnum (rnum st).2).1 }, none)
  else rrng (rnum (rnum (rnum st).2).2).1 (rnum st).1 { f with a := (rnum (rnum st).2).1 } (rnum (rnum (rnum st).2).2).2
theorem rranges_some (f : Fr) (s : List UInt8) : match packs s with
    | some x => rranges f (some s) = ({ f with a := x.1.1, list := f.list ++ x.1.2 }, some x.2)
    | none => (rranges f (some s)).2 = none := by
  unfold packs rranges
  cases h : pnum s with
  | none => rw [rnum_fail h]; simp [rnum, rrng_none]
  | some x =>
    rw [rnum_some h]
    simp only [Option.bind_some]
    cases h2 : pnum x.2 with
    | none => rw [rnum_fail h2]; simp [rnum, rrng_none]
    | some y =>
      rw [rnum_some h2]
      simp only [Option.bind_some]
      cases h3 : pnum y.2 with
      | none => rw [rnum_fail h3]; simp [rrng_none]
      | some z =>
        rw [rnum_some h3]
        simp only [Option.bind_some]
        by_cases h4 : 64 ≤ z.1
        · simp [h4]
        · rw [if_neg h4, if_neg h4]
          have := rrng_some z.1 x.1 { f with a := y.1 } z.2
          cases h5 : prng z.1 x.1 z.2 with
          | none => rw [h5] at this; exact this
          | some u => rw [h5] at this; exact this
def racked (f : Fr) (st : RS) : Fr × RS :=
  if f.kind = 3 then
    ({ (rranges f st).1 with b := (rnum (rranges f st).2).1, c := (rnum (rnum (rranges f st).2).2).1, more := ⟨(be (rnum (rnum (rnum (rranges f st).2).2).2).1 8).toArray⟩ }, (rnum (rnum (rnum (rranges f st).2).2).2).2)
  else rranges f st
theorem rranges_kind (f : Fr) (st : RS) : (rranges f st).1.kind = f.kind := by
  have key : ∀ (k high : Nat) (f : Fr) (st : RS), (rrng k high f st).1.kind = f.kind := by
    intro k
    induction k with
    | zero =>
      intro high f st
      cases st with
      | none => rfl
      | some s => unfold rrng; split <;> rfl
    | succ k ih =>
      intro high f st
      cases st with
      | none => rfl
      | some s =>
        unfold rrng
        split
        · rfl
        · split
          · rfl
          · rw [ih]
  unfold rranges
  split
  · rfl
  · rw [key]
def rstream (f : Fr) (st : RS) : Fr × RS :=
  let a := rnum st
  let b : Nat × RS := if f.kind / 4 % 2 = 1 then ((rnum a.2).1, if (rnum a.2).1 = 0 then none else (rnum a.2).2) else (f.b, a.2)
  let s2 : RS := if f.kind / 2 % 2 = 0 then none else b.2
  ({ f with kind := 8, a := a.1, b := b.1, fin := decide (f.kind % 2 = 1), data := ⟨(rtext s2).1.toArray⟩ }, (rtext s2).2)
def rcid (f : Fr) (st : RS) : Fr × RS :=
  let a := rnum st
  let b := rnum a.2
  let n := rtake 1 b.2
  match n.1 with
  | [] => ({ f with a := a.1, b := b.1 }, n.2)
  | x :: _ => ({ f with a := a.1, b := b.1, data := ⟨(rtake x.toNat n.2).1.toArray⟩, more := ⟨(rtake 16 (rtake x.toNat n.2).2).1.toArray⟩ }, (rtake 16 (rtake x.toNat n.2).2).2)
/-- the first j of the numbers -/
def rshN (j n : Nat) (f : Fr) (st : RS) : Fr × RS :=
  let a : Nat × RS := if 0 < j ∧ 0 < n then rnum st else (f.a, st)
  let b : Nat × RS := if 1 < j ∧ 1 < n then rnum a.2 else (f.b, a.2)
  let c : Nat × RS := if 2 < j ∧ 2 < n then rnum b.2 else (f.c, b.2)
  ({ f with a := a.1, b := b.1, c := c.1 }, c.2)
def rtail (sh : Shp) (st : RS) : List UInt8 × RS := if sh.t then rtext st else rtake sh.x st
def rshaped (sh : Shp) (f : Fr) (st : RS) : Fr × RS :=
  if sh.t = true ∨ 0 < sh.x then ({ (rshN 3 sh.n f st).1 with data := ⟨(rtail sh (rshN 3 sh.n f st).2).1.toArray⟩ }, (rtail sh (rshN 3 sh.n f st).2).2)
  else rshN 3 sh.n f st
def rpad (f : Fr) : RS → Fr × RS
  | none => (f, none)
  | some s => ({ f with a := min (zeros s) 16383 + 1 }, some (s.drop (min (zeros s) 16383)))
def rframe (st : RS) : Fr × RS :=
  let k := rnum st
  let f : Fr := { fr0 with kind := k.1 }
  if k.2 = none then (f, none) else
  match fshape k.1 with
  | some sh => rshaped sh f k.2
  | none => if k.1 = 0 then rpad f k.2 else if k.1 = 2 ∨ k.1 = 3 then racked f k.2 else if 8 ≤ k.1 ∧ k.1 < 16 then rstream f k.2 else if k.1 = 24 then rcid f k.2 else (f, none)

theorem rshN_none (j n : Nat) (f : Fr) : (rshN j n f none).2 = none := by
  unfold rshN
  by_cases h1 : 0 < j ∧ 0 < n <;> by_cases h2 : 1 < j ∧ 1 < n <;> by_cases h3 : 2 < j ∧ 2 < n <;> simp [h1, h2, h3, rnum]
theorem rtail_none (sh : Shp) : (rtail sh none).2 = none := by
  unfold rtail
  split <;> rfl
theorem rshaped_none (sh : Shp) (f : Fr) : (rshaped sh f none).2 = none := by
  unfold rshaped
  split
  · simp only [rshN_none, rtail_none]
  · exact rshN_none _ _ _
/-- numbers read, one behind the other -/
theorem rshN_some (n : Nat) (hn : n ≤ 3) (f : Fr) (ha : f.a = 0) (hb : f.b = 0) (hc : f.c = 0) (s : List UInt8) : match pnums n s with
    | some x => rshN 3 n f (some s) = ({ f with a := x.1.getD 0 0, b := x.1.getD 1 0, c := x.1.getD 2 0 }, some x.2)
    | none => (rshN 3 n f (some s)).2 = none := by
  match n, hn with
  | 0, _ => simp [pnums, rshN, ha, hb, hc]
  | 1, _ =>
    cases h : pnum s with
    | none => simp [pnums, rshN, h, rnum]
    | some x => simp [pnums, rshN, h, rnum, hb, hc]
  | 2, _ =>
    cases h : pnum s with
    | none => simp [pnums, rshN, h, rnum]
    | some x => cases h2 : pnum x.2 <;> simp [pnums, rshN, h, h2, rnum, hc]
  | 3, _ =>
    cases h : pnum s with
    | none => simp [pnums, rshN, h, rnum]
    | some x =>
      cases h2 : pnum x.2 with
      | none => simp [pnums, rshN, h, h2, rnum]
      | some y => cases h3 : pnum y.2 <;> simp [pnums, rshN, h, h2, h3, rnum]
theorem rshaped_some (sh : Shp) (hn : sh.n ≤ 3) (k : Nat) (s : List UInt8) : match pshape k sh s with
    | some x => rshaped sh { fr0 with kind := k } (some s) = (x.1, some x.2)
    | none => (rshaped sh { fr0 with kind := k } (some s)).2 = none := by
  have h1 := rshN_some sh.n hn { fr0 with kind := k } rfl rfl rfl s
  unfold pshape rshaped
  cases h : pnums sh.n s with
  | none =>
    rw [h] at h1
    simp only at h1
    simp only [Option.bind_none, h1, rtail_none]
    split
    · rfl
    · exact h1
  | some x =>
    rw [h] at h1
    simp only at h1
    simp only [h1, Option.bind_some]
    unfold rtail
    by_cases ht : sh.t = true
    · rw [if_pos ht, if_pos (.inl ht), if_pos ht]
      cases h2 : ptext x.2 with
      | none => simp [rtext_fail h2]
      | some y => simp [rtext_some h2, fr0]
    · rw [if_neg ht]
      by_cases hx : 0 < sh.x
      · rw [if_pos hx, if_pos (.inr hx), if_neg ht]
        cases h2 : ptake sh.x x.2 with
        | none => simp [rtake_fail h2]
        | some y => simp [rtake_some h2, fr0]
      · rw [if_neg hx, if_neg (by simp [ht]; omega)]
        rfl
theorem racked_some (k : Nat) (s : List UInt8) : match packed k s with
    | some x => racked { fr0 with kind := k } (some s) = (x.1, some x.2)
    | none => (racked { fr0 with kind := k } (some s)).2 = none := by
  have h1 := rranges_some { fr0 with kind := k } s
  unfold packed racked
  cases h : packs s with
  | none =>
    rw [h] at h1
    simp only at h1
    simp only [Option.bind_none, h1]
    split
    · simp [rnum]
    · exact h1
  | some x =>
    rw [h] at h1
    simp only at h1
    simp only [h1, Option.bind_some]
    by_cases hk : k = 3
    · rw [if_pos hk, if_pos hk]
      cases h2 : pnum x.2 with
      | none => simp [h2, rnum]
      | some y =>
        cases h3 : pnum y.2 with
        | none => simp [h2, rnum, h3]
        | some z => cases h4 : pnum z.2 <;> simp [h2, rnum, h3, h4, fr0]
    · rw [if_neg hk, if_neg hk]
      simp [fr0]
theorem rtext_none {st : RS} (h : st = none) : (rtext st).2 = none := by subst h; rfl
theorem rstream_some (k : Nat) (s : List UInt8) : match pstream k s with
    | some x => rstream { fr0 with kind := k } (some s) = (x.1, some x.2)
    | none => (rstream { fr0 with kind := k } (some s)).2 = none := by
  unfold pstream rstream
  simp only
  cases h : pnum s with
  | none =>
    rw [rnum_fail h]
    exact rtext_none (by by_cases h4 : k / 4 % 2 = 1 <;> by_cases h2 : k / 2 % 2 = 0 <;> simp [h4, h2, rnum])
  | some x =>
    rw [rnum_some h]
    simp only [Option.bind_some]
    by_cases h4 : k / 4 % 2 = 1
    · rw [if_pos h4, if_pos h4]
      cases h2 : pnum x.2 with
      | none =>
        rw [rnum_fail h2]
        exact rtext_none (by by_cases h2 : k / 2 % 2 = 0 <;> simp [h2])
      | some y =>
        rw [rnum_some h2]
        simp only [Option.bind_some]
        by_cases h0 : y.1 = 0
        · rw [if_pos h0, if_pos h0]
          simp [rtext, rnum, rtake]
        · rw [if_neg h0, if_neg h0]
          simp only [Option.bind_some]
          by_cases h2 : k / 2 % 2 = 0
          · rw [if_pos h2, if_pos h2]
            rfl
          · rw [if_neg h2, if_neg h2]
            cases h5 : ptext y.2 with
            | none => simp [rtext_fail h5]
            | some z => simp [rtext_some h5, fr0]
    · rw [if_neg h4, if_neg h4]
      simp only [Option.bind_some]
      by_cases h2 : k / 2 % 2 = 0
      · rw [if_pos h2, if_pos h2]
        rfl
      · rw [if_neg h2, if_neg h2]
        cases h5 : ptext x.2 with
        | none => simp [rtext_fail h5]
        | some z => simp [rtext_some h5, fr0]
theorem rcid_some (s : List UInt8) : match pcid s with
    | some x => rcid { fr0 with kind := 24 } (some s) = (x.1, some x.2)
    | none => (rcid { fr0 with kind := 24 } (some s)).2 = none := by
  unfold pcid rcid
  simp only
  cases h : pnum s with
  | none => rw [rnum_fail h]; rfl
  | some x =>
    rw [rnum_some h]
    simp only [Option.bind_some]
    cases h2 : pnum x.2 with
    | none => rw [rnum_fail h2]; rfl
    | some y =>
      rw [rnum_some h2]
      simp only [Option.bind_some]
      cases h3 : y.2 with
      | nil => rfl
      | cons n t =>
        have e : rtake 1 (some (n :: t)) = ([n], some t) := by simp [rtake]
        rw [e]
        simp only
        cases h4 : ptake n.toNat t with
        | none => rw [rtake_fail h4]; rfl
        | some z =>
          rw [rtake_some h4]
          simp only [Option.bind_some]
          cases h5 : ptake 16 z.2 with
          | none => rw [rtake_fail h5]; rfl
          | some u => rw [rtake_some h5]; rfl
theorem rframe_some (s : List UInt8) : match pframe s with
    | some x => rframe (some s) = (x.1, some x.2)
    | none => (rframe (some s)).2 = none := by
  unfold pframe rframe
  simp only
  cases h : pnum s with
  | none => rw [rnum_fail h]; rfl
  | some x =>
    rw [rnum_some h]
    simp only [Option.bind_some]
    rw [if_neg (show ¬ (some x.2 : RS) = none by simp)]
    cases hs : fshape x.1 with
    | some sh => exact rshaped_some sh (fshape_lt hs).2.1 x.1 x.2
    | none =>
      simp only
      by_cases h0 : x.1 = 0
      · rw [if_pos h0, if_pos h0]
        simp [rpad, ppad, fr0, h0]
      · rw [if_neg h0, if_neg h0]
        by_cases h2 : x.1 = 2 ∨ x.1 = 3
        · rw [if_pos h2, if_pos h2]
          exact racked_some x.1 x.2
        · rw [if_neg h2, if_neg h2]
          by_cases h8 : 8 ≤ x.1 ∧ x.1 < 16
          · rw [if_pos h8, if_pos h8]
            exact rstream_some x.1 x.2
          · rw [if_neg h8, if_neg h8]
            by_cases h24 : x.1 = 24
            · rw [if_pos h24, if_pos h24, h24]
              exact rcid_some x.2
            · rw [if_neg h24, if_neg h24]
end Go.Proofs.YtbjmcnmcodbkdaaDoor

/-
  frames: the reader's num, take, text.
-/
namespace Go.Proofs.YtbjmcnmcodbkdaaDoor
open Go.RowKit

/-- the reader stands in R, and may still read st -/
def RdO (w : World) (R : Nat) (st : RS) : Prop := ∃ s : ByteArray, Blk w R 50 #[.string s, .bool st.isNone] ∧ s.size ≤ 1000000 ∧ ∀ l, st = some l → s.data.toList = l
theorem RdO.mod {F : List Nat} {w w' : World} {R : Nat} {st : RS} (h : RdO w R st) (m : Mod F w w') (hF : R ∉ F) : RdO w' R st := by
  obtain ⟨s, h1, h2⟩ := h
  exact ⟨s, m.blk h1 hF, h2⟩
theorem RdO.lt {w : World} {R : Nat} {st : RS} (h : RdO w R st) : R < w.heap.size := by
  obtain ⟨s, h1, h2⟩ := h
  exact h1.lt
theorem RdO.mk' {w : World} {R : Nat} {st : RS} {s : ByteArray} {b : Bool} (h1 : Blk w R 50 #[.string s, .bool b]) (h2 : s.size ≤ 1000000) (h3 : b = st.isNone) (h4 : ∀ l, st = some l → s.data.toList = l) : RdO w R st := by
  subst h3
  exact ⟨s, h1, h2, h4⟩

/-- varint.Take of a string, in the reader's words -/
theorem take_pnum (s : ByteArray) : pnum s.data.toList = if (vtake s.data.toList).e = 0 ∧ vsizeS (vtake s.data.toList).n = s.size - (vtake s.data.toList).rest.length then some ((vtake s.data.toList).n, (vtake s.data.toList).rest) else none := by
  unfold pnum short
  simp only [Bool.and_eq_true, decide_eq_true_eq, beq_iff_eq, bytes_len]

theorem bad_shut {w w1 : World} {R : Nat} {s : ByteArray} {b : Bool} (hb : Blk w1 R 50 #[.string s, .bool b]) (m1 : Mod [R] w w1) :
    RdO ((w1.setCell ⟨R, 0, none⟩ (.string ⟨#[]⟩)).setCell ⟨R, 1, none⟩ (.bool true)) R none ∧ Mod [R] w ((w1.setCell ⟨R, 0, none⟩ (.string ⟨#[]⟩)).setCell ⟨R, 1, none⟩ (.bool true)) :=
  ⟨RdO.mk' (s := ⟨#[]⟩) (b := true) ((hb.set_ 0 _).set_ 1 _) (by decide) rfl (fun l h => by cases h), (m1.setCell (.inl (by simp)) _).setCell (.inl (by simp)) _⟩
theorem good_shut {w w1 : World} {R : Nat} {s S : ByteArray} (hb : Blk w1 R 50 #[.string s, .bool false]) (m1 : Mod [R] w w1) (hS : S.size ≤ 1000000) {l : List UInt8} (hl : S.data.toList = l) :
    RdO (w1.setCell ⟨R, 0, none⟩ (.string S)) R (some l) ∧ Mod [R] w (w1.setCell ⟨R, 0, none⟩ (.string S)) :=
  ⟨RdO.mk' (s := S) (b := false) (hb.set_ 0 _) hS rfl (fun k h => by cases h; exact hl), m1.setCell (.inl (by simp)) _⟩

set_option maxRecDepth 100000 in
set_option maxHeartbeats 4000000 in
theorem rnum_any (w : World) (R : Nat) (st : RS) (h : RdO w R st) :
    Calls Tryd.prog 43 #[.pointer (some ⟨R, 0, none⟩)] w fun e w' => e = .returned (.int .u64 ((rnum st).1 : Nat)) ∧ RdO w' R (rnum st).2 ∧ Mod [R] w w' := by
  obtain ⟨s, hb, hs, hl⟩ := h
  have hr := vtake_rest s.data.toList
  have hT := vtake_any w s
  have hp := take_pnum s
  rw [bytes_len] at hr
  obtain ⟨n, hn⟩ : ∃ n, (vtake s.data.toList).n = n := ⟨_, rfl⟩
  obtain ⟨S, hS⟩ : ∃ S : ByteArray, S = ⟨(vtake s.data.toList).rest.toArray⟩ := ⟨_, rfl⟩
  obtain ⟨ev, hev⟩ : ∃ e, (vtake s.data.toList).e = e := ⟨_, rfl⟩
  have hSl : (vtake s.data.toList).rest = S.data.toList := by rw [hS]
  have hsr : str (vtake s.data.toList).rest = .string S := by rw [hS]; rfl
  rw [hn, hsr, hev] at hT
  rw [hn, hev, hSl, bytes_len] at hp
  rw [hSl, bytes_len] at hr
  obtain ⟨z, hz⟩ : ∃ z, vsizeS n = z := ⟨_, rfl⟩
  rw [hz] at hp
  have hZ := fun w => vsize_any w n
  rw [hz] at hZ
  have HT := hide hT
  have HZ := hide hZ
  have HL := hide hl
  clear hT hZ hl hz hn hS hSl hsr hev
  have hlt := hb.lt
  cases st with
  | some l =>
    simp only [Option.isNone_some] at hb
    by_cases h0 : ev = 0
    · subst h0
      by_cases h1 : z = s.size - S.size
      · have HP := hide (hp.trans (if_pos ⟨rfl, h1⟩))
        have e1 : (rnum (some l)).1 = n := by rw [← HL.out l rfl, rnum_some HP.out]
        have e2 : (rnum (some l)).2 = some S.data.toList := by rw [← HL.out l rfl, rnum_some HP.out]
        have HE := hide (And.intro e1 e2)
        subst h1
        clear e1 e2 hp HP
        go_enter Tryd.func43, Tryd.ntmps43
        have c0 : w.cell? ⟨R, 0, none⟩ = some (.string s) := hb.cell 0
        go_wp2_with fail
        refine HT.out.mono ?_
        rintro e w1 ⟨rfl, m1⟩
        have hb1 := m1.blk hb (by simp)
        have HB1 := hide hb1
        have c0 : w1.cell? ⟨R, 0, none⟩ = some (.string s) := hb1.cell 0
        have c1 : w1.cell? ⟨R, 1, none⟩ = some (.bool false) := hb1.cell 1
        have f0 := hb1.frozen 0
        have hl1 := hb1.lt
        have z1 : (s.size : Int) - S.size = ((s.size - S.size : Nat) : Int) := by omega
        clear hb hb1
        go_wp2_with fail
        go_quiet ((go_at_call 61; exact Calls.quiet_of_same (HZ.out _)))
        go_wp2_with fail
        go_ret
        rw [HE.out.1, HE.out.2]
        exact ⟨rfl, good_shut (s := s) (S := S) (w1 := w1.drewN _) HB1.out ((m1.mono (G := [R]) (by simp)).drewN _) (by omega) rfl⟩
      · have HP := hide (hp.trans (if_neg (fun h => h1 h.2)))
        have e1 : (rnum (some l)).1 = 0 := by rw [← HL.out l rfl, rnum_fail HP.out]
        have e2 : (rnum (some l)).2 = none := by rw [← HL.out l rfl, rnum_fail HP.out]
        have HE := hide (And.intro e1 e2)
        have z2 : ((z : Int) != (s.size : Int) - S.size) = true := by simp; omega
        clear e1 e2 hp HP
        go_enter Tryd.func43, Tryd.ntmps43
        have c0 : w.cell? ⟨R, 0, none⟩ = some (.string s) := hb.cell 0
        go_wp2_with fail
        refine HT.out.mono ?_
        rintro e w1 ⟨rfl, m1⟩
        have hb1 := m1.blk hb (by simp)
        have HB1 := hide hb1
        have c0 : w1.cell? ⟨R, 0, none⟩ = some (.string s) := hb1.cell 0
        have c1 : w1.cell? ⟨R, 1, none⟩ = some (.bool false) := hb1.cell 1
        have f0 := hb1.frozen 0
        have f1 := hb1.frozen 1
        have hl1 := hb1.lt
        clear hb hb1
        go_wp2_with fail
        go_quiet ((go_at_call 61; exact Calls.quiet_of_same (HZ.out _)))
        go_wp2_with fail
        go_ret
        rw [HE.out.1, HE.out.2]
        exact ⟨rfl, bad_shut HB1.out ((m1.mono (G := [R]) (by simp)).drewN _)⟩
    · have HP := hide (hp.trans (if_neg (fun h => h0 h.1)))
      have e1 : (rnum (some l)).1 = 0 := by rw [← HL.out l rfl, rnum_fail HP.out]
      have e2 : (rnum (some l)).2 = none := by rw [← HL.out l rfl, rnum_fail HP.out]
      have HE := hide (And.intro e1 e2)
      have z2 : (ev != 0) = true := by simpa using h0
      clear e1 e2 hp HP h0
      go_enter Tryd.func43, Tryd.ntmps43
      have c0 : w.cell? ⟨R, 0, none⟩ = some (.string s) := hb.cell 0
      go_wp2_with fail
      refine HT.out.mono ?_
      rintro e w1 ⟨rfl, m1⟩
      have hb1 := m1.blk hb (by simp)
      have HB1 := hide hb1
      have f0 := hb1.frozen 0
      have f1 := hb1.frozen 1
      have c0 : w1.cell? ⟨R, 0, none⟩ = some (.string s) := hb1.cell 0
      have c1 : w1.cell? ⟨R, 1, none⟩ = some (.bool false) := hb1.cell 1
      have hl1 := hb1.lt
      clear hb hb1
      go_wp2_with fail
      go_quiet (fail)
      go_wp2_with fail
      go_ret
      rw [HE.out.1, HE.out.2]
      exact ⟨rfl, bad_shut HB1.out ((m1.mono (G := [R]) (by simp)).drewN _)⟩
  | none =>
    simp only [Option.isNone_none] at hb
    clear hp HL
    by_cases h0 : ev = 0
    · subst h0
      go_enter Tryd.func43, Tryd.ntmps43
      have c0 : w.cell? ⟨R, 0, none⟩ = some (.string s) := hb.cell 0
      go_wp2_with fail
      refine HT.out.mono ?_
      rintro e w1 ⟨rfl, m1⟩
      have hb1 := m1.blk hb (by simp)
      have HB1 := hide hb1
      have f0 := hb1.frozen 0
      have f1 := hb1.frozen 1
      have c0 : w1.cell? ⟨R, 0, none⟩ = some (.string s) := hb1.cell 0
      have c1 : w1.cell? ⟨R, 1, none⟩ = some (.bool true) := hb1.cell 1
      have hl1 := hb1.lt
      clear hb hb1
      go_wp2_with fail
      go_quiet (fail)
      go_wp2_with fail
      go_ret
      exact ⟨rfl, bad_shut HB1.out ((m1.mono (G := [R]) (by simp)).drewN _)⟩
    · have z2 : (ev != 0) = true := by simpa using h0
      clear h0
      go_enter Tryd.func43, Tryd.ntmps43
      have c0 : w.cell? ⟨R, 0, none⟩ = some (.string s) := hb.cell 0
      go_wp2_with fail
      refine HT.out.mono ?_
      rintro e w1 ⟨rfl, m1⟩
      have hb1 := m1.blk hb (by simp)
      have HB1 := hide hb1
      have f0 := hb1.frozen 0
      have f1 := hb1.frozen 1
      have c0 : w1.cell? ⟨R, 0, none⟩ = some (.string s) := hb1.cell 0
      have c1 : w1.cell? ⟨R, 1, none⟩ = some (.bool true) := hb1.cell 1
      have hl1 := hb1.lt
      clear hb hb1
      go_wp2_with fail
      go_quiet (fail)
      go_wp2_with fail
      go_ret
      exact ⟨rfl, bad_shut HB1.out ((m1.mono (G := [R]) (by simp)).drewN _)⟩

set_option maxRecDepth 100000 in
set_option maxHeartbeats 4000000 in
theorem rtake_any' (w : World) (R : Nat) (st : RS) (h : RdO w R st) (n : Nat) (hn : n ≤ 18446744073709551615) :
    Calls Tryd.prog 63 #[.pointer (some ⟨R, 0, none⟩), .int .u64 n] w fun e w' => e = .returned (str (rtake n st).1) ∧ RdO w' R (rtake n st).2 ∧ Mod [R] w w' := by
  obtain ⟨s, hb, hs, hl⟩ := h
  have HL := hide hl
  have HB := hide hb
  have hlt := hb.lt
  have f0 := hb.frozen 0
  have f1 := hb.frozen 1
  have c0 : w.cell? ⟨R, 0, none⟩ = some (.string s) := hb.cell 0
  have c1 : w.cell? ⟨R, 1, none⟩ = some (.bool st.isNone) := hb.cell 1
  clear hl hb
  cases st with
  | some l =>
    simp only [Option.isNone_some] at c1 HB
    have el := HL.out l rfl
    have hll : l.length = s.size := by rw [← el, bytes_len]
    by_cases h : n ≤ s.size
    · have e : rtake n (some l) = (l.take n, some (l.drop n)) := by simp only [rtake, if_pos (show n ≤ l.length by omega)]
      have HE := hide e
      have HLen := hide hll
      have HEl := hide el
      have h2 : ¬ ((n : Int) > s.size) := by omega
      have h3 : (n : Int) ≤ s.size := by omega
      clear e hll el HL
      go_enter Tryd.func63, Tryd.ntmps63
      go_wp2_with fail
      go_ret
      rw [HE.out]
      have x1 : s.extract 0 n = ⟨(l.take n).toArray⟩ := by
        apply ByteArray.ext; apply Array.ext'; rw [Lib.extract_data, HEl.out]; simp
      have x2 : (s.extract n s.size).data.toList = l.drop n := by
        rw [Lib.extract_data, HEl.out, List.take_of_length_le (by rw [List.length_drop, HLen.out]; omega)]
      have x3 : (s.extract n s.size).size ≤ 1000000 := by rw [← bytes_len, x2, List.length_drop, HLen.out]; omega
      rw [x1]
      exact ⟨rfl, good_shut HB.out (Mod.refl _ _) x3 x2⟩
    · have e : rtake n (some l) = ([], none) := by simp only [rtake, if_neg (show ¬ n ≤ l.length by omega)]
      have HE := hide e
      have h2 : ((n : Int) > s.size) := by omega
      clear e hll el HL
      go_enter Tryd.func63, Tryd.ntmps63
      go_wp2_with fail
      go_ret
      rw [HE.out]
      exact ⟨rfl, bad_shut HB.out (Mod.refl _ _)⟩
  | none =>
    simp only [Option.isNone_none] at c1 HB
    clear HL
    go_enter Tryd.func63, Tryd.ntmps63
    go_wp2_with fail
    go_ret
    exact ⟨rfl, bad_shut HB.out (Mod.refl _ _)⟩

set_option maxRecDepth 100000 in
set_option maxHeartbeats 1000000 in
theorem rtext_any (w : World) (R : Nat) (st : RS) (h : RdO w R st) :
    Calls Tryd.prog 62 #[.pointer (some ⟨R, 0, none⟩)] w fun e w' => e = .returned (str (rtext st).1) ∧ RdO w' R (rtext st).2 ∧ Mod [R] w w' := by
  have H := hide h
  have hn := rnum_lt st
  have HNum := hide (fun w h => rnum_any w R st h)
  have HT := hide (fun w h => rtake_any' w R (rnum st).2 h (rnum st).1 (by omega))
  have HV : Hid (rtext st = rtake (rnum st).1 (rnum st).2) := hide rfl
  obtain ⟨N, hN⟩ : ∃ N, (rnum st).1 = N := ⟨_, rfl⟩
  rw [hN] at HNum HT HV hn
  clear h hN
  go_enter Tryd.func62, Tryd.ntmps62
  go_wp2_with fail
  refine (HNum.out _ H.out).mono ?_
  rintro e w1 ⟨rfl, h1, m1⟩
  go_wp2_with fail
  refine (HT.out _ h1).mono ?_
  rintro e w2 ⟨rfl, h2, m2⟩
  unfold str
  go_wp2_with fail
  go_ret
  rw [HV.out]
  exact ⟨rfl, h2, m1.trans m2 (by simp)⟩
end Go.Proofs.YtbjmcnmcodbkdaaDoor

/-
  frames: Same.
-/
namespace Go.Proofs.YtbjmcnmcodbkdaaDoor
open Go.RowKit

def fsame (f g : Fr) : Bool := decide (f.kind = g.kind) && decide (f.a = g.a) && decide (f.b = g.b) && decide (f.c = g.c) && decide (f.fin = g.fin) && decide (f.data = g.data) && decide (f.more = g.more) && decide (f.list = g.list)
theorem fsame_iff {f g : Fr} : fsame f g = true ↔ f = g := by
  unfold fsame
  simp only [Bool.and_eq_true, decide_eq_true_eq]
  constructor
  · rintro ⟨⟨⟨⟨⟨⟨⟨h1, h2⟩, h3⟩, h4⟩, h5⟩, h6⟩, h7⟩, h8⟩
    exact Fr.ext' h1 h2 h3 h4 h5 h6 h7 h8
  · rintro rfl
    simp
theorem fsame_self (f : Fr) : fsame f f = true := fsame_iff.2 rfl
theorem fsame_ne {f g : Fr} (h : f ≠ g) : fsame f g = false := by
  cases hs : fsame f g
  · rfl
  · exact absurd (fsame_iff.1 hs) h
theorem toList_ne {a b : ByteArray} (h : a ≠ b) : (a.toList == b.toList) = false := by
  rw [beq_eq_false_iff_ne]
  intro e
  rw [Lib.toList_data, Lib.toList_data] at e
  exact h (bytes_eq e)

set_option maxRecDepth 100000 in
set_option maxHeartbeats 8000000 in
theorem same_any (w : World) (A B : Option Addr) (n m c d : Nat) (f g : Fr) (hf : Rngs w A n f.list) (hg : Rngs w B m g.list) (v : Bool) (hv : fsame f g = v) :
    Calls Tryd.prog 24 #[fval A n c f, fval B m d g] w fun e w' => e = .returned (.bool v) ∧ Mod [] w w' := by
  obtain ⟨k1, a1, b1, c1, i1, d1, m1, l1⟩ := f
  obtain ⟨k2, a2, b2, c2, i2, d2, m2, l2⟩ := g
  unfold fval fcs
  simp only at hf hg ⊢
  have HV := hide hv
  have HF := hide hf
  have HG := hide hg
  clear hv hf hg
  by_cases hk : k1 = k2
  rotate_left
  · have hvf : Hid (v = false) := hide (by rw [← HV.out]; exact fsame_ne (fun e => hk (congrArg Fr.kind e)))
    have q1 : ((k1 : Int) == (k2 : Int)) = false := by simp; omega
    have q2 : (k1 == k2) = false := by simpa using hk
    clear hk HV HF HG
    go_enter Tryd.func24, Tryd.ntmps24
    go_wp2_with fail
    go_ret
    exact ⟨by rw [hvf.out]; rfl, ((Mod.refl _ _).alloc _).alloc _⟩
  subst hk
  by_cases ha : a1 = a2
  rotate_left
  · have hvf : Hid (v = false) := hide (by rw [← HV.out]; exact fsame_ne (fun e => ha (congrArg Fr.a e)))
    have q1 : ((a1 : Int) == (a2 : Int)) = false := by simp; omega
    have q2 : (a1 == a2) = false := by simpa using ha
    clear ha HV HF HG
    go_enter Tryd.func24, Tryd.ntmps24
    go_wp2_with fail
    go_ret
    exact ⟨by rw [hvf.out]; rfl, ((Mod.refl _ _).alloc _).alloc _⟩
  subst ha
  by_cases hb : b1 = b2
  rotate_left
  · have hvf : Hid (v = false) := hide (by rw [← HV.out]; exact fsame_ne (fun e => hb (congrArg Fr.b e)))
    have q1 : ((b1 : Int) == (b2 : Int)) = false := by simp; omega
    have q2 : (b1 == b2) = false := by simpa using hb
    clear hb HV HF HG
    go_enter Tryd.func24, Tryd.ntmps24
    go_wp2_with fail
    go_ret
    exact ⟨by rw [hvf.out]; rfl, ((Mod.refl _ _).alloc _).alloc _⟩
  subst hb
  by_cases hc : c1 = c2
  rotate_left
  · have hvf : Hid (v = false) := hide (by rw [← HV.out]; exact fsame_ne (fun e => hc (congrArg Fr.c e)))
    have q1 : ((c1 : Int) == (c2 : Int)) = false := by simp; omega
    have q2 : (c1 == c2) = false := by simpa using hc
    clear hc HV HF HG
    go_enter Tryd.func24, Tryd.ntmps24
    go_wp2_with fail
    go_ret
    exact ⟨by rw [hvf.out]; rfl, ((Mod.refl _ _).alloc _).alloc _⟩
  subst hc
  by_cases hi : i1 = i2
  rotate_left
  · have hvf : Hid (v = false) := hide (by rw [← HV.out]; exact fsame_ne (fun e => hi (congrArg Fr.fin e)))
    have q1 : (i1 == i2) = false := by simpa using hi
    clear hi HV HF HG
    go_enter Tryd.func24, Tryd.ntmps24
    go_wp2_with fail
    go_ret
    exact ⟨by rw [hvf.out]; rfl, ((Mod.refl _ _).alloc _).alloc _⟩
  subst hi
  by_cases hd : d1 = d2
  rotate_left
  · have hvf : Hid (v = false) := hide (by rw [← HV.out]; exact fsame_ne (fun e => hd (congrArg Fr.data e)))
    have q1 := toList_ne hd
    clear hd HV HF HG
    go_enter Tryd.func24, Tryd.ntmps24
    go_wp2_with fail
    go_ret
    exact ⟨by rw [hvf.out]; rfl, ((Mod.refl _ _).alloc _).alloc _⟩
  subst hd
  by_cases hm : m1 = m2
  rotate_left
  · have hvf : Hid (v = false) := hide (by rw [← HV.out]; exact fsame_ne (fun e => hm (congrArg Fr.more e)))
    have q1 := toList_ne hm
    clear hm HV HF HG
    go_enter Tryd.func24, Tryd.ntmps24
    go_wp2_with fail
    go_ret
    exact ⟨by rw [hvf.out]; rfl, ((Mod.refl _ _).alloc _).alloc _⟩
  subst hm
  have hvl : decide (l1 = l2) = v := by
    rw [← HV.out]
    unfold fsame
    simp
  have HVL := hide hvl
  have hfA := hide (HF.out.new (((Mod.refl [] w).alloc (.cells (fcs A n c ⟨k1, a1, b1, c1, i1, d1, m1, l1⟩) 26)).alloc (.cells (fcs B m d ⟨k1, a1, b1, c1, i1, d1, m1, l2⟩) 26)))
  have hgA := hide (HG.out.new (((Mod.refl [] w).alloc (.cells (fcs A n c ⟨k1, a1, b1, c1, i1, d1, m1, l1⟩) 26)).alloc (.cells (fcs B m d ⟨k1, a1, b1, c1, i1, d1, m1, l2⟩) 26)))
  clear hvl HV HF HG
  go_enter Tryd.func24, Tryd.ntmps24
  go_wp2_with fail
  refine (requal_any _ A B n m c d l1 l2 hfA.out hgA.out v HVL.out).mono ?_
  rintro e w' ⟨rfl, q, rfl⟩
  go_wp2_with fail
  go_ret
  exact ⟨by rfl, (((Mod.refl _ _).alloc _).alloc _).drewN _⟩
end Go.Proofs.YtbjmcnmcodbkdaaDoor

/-
  results that lie in cells; cells stored anew, one by one.
-/
namespace Go.Proofs.YtbjmcnmcodbkdaaDoor
open Go.RowKit

theorem results_cell_tmp_row {P : Program} {fn : Func} {p u : Tmp} {ty : TypeId} (h : fn.results = #[.cell p ty, .tmp u]) (tmps : Array Value) (w : World) (g : Nat) (t : TypeId) (cs : Array Value) (d : TypeDesc)
    (hp : tmps.getD p undef = .pointer (some ⟨g, 0, none⟩)) (hg : Blk w g t cs) (hu : P.underlying ty = some d) (hd : (match d with | .struct _ | .array _ _ => true | _ => false) = true) (hi : (P.info? ty).map (·.size) = some cs.size) :
    (results fn tmps).run P w = .ok (.tuple #[.agg cs, tmps.getD u undef]) w := by
  rw [results_cell_tmp h, hp]
  show ((loadVar ty ⟨g, 0, none⟩).run P w).andThen _ = _
  rw [run_loadVar_row w g t ty cs (0, 0) d hg hu hd hi]
  rfl
theorem sets_fold (cs vs : Array Value) (h : cs.size = vs.size) : ∀ k, k ≤ vs.size → (((List.range k).foldl (fun c i => c.setIfInBounds i (vs.getD i undef)) cs).size = vs.size ∧
    ∀ i, i < vs.size → ((List.range k).foldl (fun c i => c.setIfInBounds i (vs.getD i undef)) cs)[i]? = if i < k then vs[i]? else cs[i]?) := by
  intro k
  induction k with
  | zero => intro _; exact ⟨by simpa using h, fun i hi => by simp⟩
  | succ k ih =>
    intro hk
    obtain ⟨h1, h2⟩ := ih (by omega)
    rw [List.range_succ, List.foldl_append]
    simp only [List.foldl_cons, List.foldl_nil]
    refine ⟨by simpa using h1, fun i hi => ?_⟩
    rw [Array.getElem?_setIfInBounds]
    by_cases e : k = i
    · subst e
      rw [if_pos rfl, if_pos (by omega), if_pos (by omega)]
      simp [Array.getD, hi]
    · rw [if_neg e, h2 i hi]
      by_cases h3 : i < k
      · rw [if_pos h3, if_pos (by omega)]
      · rw [if_neg h3, if_neg (by omega)]
theorem sets_eq (cs vs : Array Value) (n : Nat) (h : cs.size = n) (k : vs.size = n) : (List.range n).foldl (fun c i => c.setIfInBounds i (vs.getD i undef)) cs = vs := by
  subst k
  obtain ⟨h1, h2⟩ := sets_fold cs vs h vs.size (Nat.le_refl _)
  apply Array.ext_getElem?
  intro i
  by_cases hi : i < vs.size
  · rw [h2 i hi, if_pos hi]
  · rw [Array.getElem?_eq_none (by omega), Array.getElem?_eq_none (by omega)]
theorem Blk.sets {w : World} {g : Nat} {t : TypeId} {cs : Array Value} (h : Blk w g t cs) (vs : Nat → Value) : ∀ l : List Nat, Blk (l.foldl (fun w i => w.setCell ⟨g, i, none⟩ (vs i)) w) g t (l.foldl (fun c i => c.setIfInBounds i (vs i)) cs)
  | [] => h
  | i :: l => Blk.sets (h.set_ i (vs i)) vs l
theorem Mod.sets {F : List Nat} {a w : World} {g : Nat} (h : Mod F a w) (hg : g ∈ F ∨ a.heap.size ≤ g) (vs : Nat → Value) : ∀ l : List Nat, Mod F a (l.foldl (fun w i => w.setCell ⟨g, i, none⟩ (vs i)) w)
  | [] => h
  | i :: l => Mod.sets (h.setCell (p := ⟨g, i, none⟩) hg (vs i)) hg vs l
end Go.Proofs.YtbjmcnmcodbkdaaDoor

/-
  frames: shapes, clear.
-/
namespace Go.Proofs.YtbjmcnmcodbkdaaDoor
open Go.RowKit

def shval (s : Shp) : Value := .agg #[.int .i64 (s.n : Nat), .bool s.t, .int .i64 (s.x : Nat)]
def sh0 : Shp := ⟨0, false, 0⟩
/-- what shapes tells -/
def shS (k : Nat) : Shp := (fshape k).getD sh0
theorem fshape_some {k : Nat} (h : k = 1 ∨ k = 30 ∨ k = 4 ∨ k = 5 ∨ k = 17 ∨ k = 21 ∨ k = 16 ∨ k = 18 ∨ k = 19 ∨ k = 20 ∨ k = 22 ∨ k = 23 ∨ k = 25 ∨ k = 6 ∨ k = 29 ∨ k = 28 ∨ k = 7 ∨ k = 26 ∨ k = 27) : (fshape k).isSome = true := by
  rcases h with rfl | rfl | rfl | rfl | rfl | rfl | rfl | rfl | rfl | rfl | rfl | rfl | rfl | rfl | rfl | rfl | rfl | rfl | rfl <;> rfl
theorem fshape_none {k : Nat} (h : ¬ (k = 1 ∨ k = 30 ∨ k = 4 ∨ k = 5 ∨ k = 17 ∨ k = 21 ∨ k = 16 ∨ k = 18 ∨ k = 19 ∨ k = 20 ∨ k = 22 ∨ k = 23 ∨ k = 25 ∨ k = 6 ∨ k = 29 ∨ k = 28 ∨ k = 7 ∨ k = 26 ∨ k = 27)) : fshape k = none := by
  unfold fshape
  repeat rw [if_neg (by omega)]

set_option maxRecDepth 100000 in
set_option maxHeartbeats 16000000 in
theorem shapes_any (w : World) (k : Nat) : Calls Tryd.prog 37 #[.int .u64 k] w fun e w' => e = .returned (.tuple #[shval (shS k), .bool (fshape k).isSome]) ∧ Mod [] w w' := by
  by_cases h : k = 1 ∨ k = 30 ∨ k = 4 ∨ k = 5 ∨ k = 17 ∨ k = 21 ∨ k = 16 ∨ k = 18 ∨ k = 19 ∨ k = 20 ∨ k = 22 ∨ k = 23 ∨ k = 25 ∨ k = 6 ∨ k = 29 ∨ k = 28 ∨ k = 7 ∨ k = 26 ∨ k = 27
  · rcases h with rfl | rfl | rfl | rfl | rfl | rfl | rfl | rfl | rfl | rfl | rfl | rfl | rfl | rfl | rfl | rfl | rfl | rfl | rfl
    all_goals
      go_enter Tryd.func37, Tryd.ntmps37
      go_wp2_with fail
      exact bodyPost_ret (results_cell_tmp_row rfl _ _ w.heap.size 72 _ _ rfl (Blk.new _ _ _) Tryd.underlying72 rfl (by kernel_rfl)) rfl ⟨rfl, (Mod.refl _ _).alloc _⟩
  · have hn := fshape_none h
    have HN := hide hn
    clear hn
    have b1 : ((k : Int) == 1) = false := by simp; omega
    have b30 : ((k : Int) == 30) = false := by simp; omega
    have b4 : ((k : Int) == 4) = false := by simp; omega
    have b5 : ((k : Int) == 5) = false := by simp; omega
    have b17 : ((k : Int) == 17) = false := by simp; omega
    have b21 : ((k : Int) == 21) = false := by simp; omega
    have b16 : ((k : Int) == 16) = false := by simp; omega
    have b18 : ((k : Int) == 18) = false := by simp; omega
    have b19 : ((k : Int) == 19) = false := by simp; omega
    have b20 : ((k : Int) == 20) = false := by simp; omega
    have b22 : ((k : Int) == 22) = false := by simp; omega
    have b23 : ((k : Int) == 23) = false := by simp; omega
    have b25 : ((k : Int) == 25) = false := by simp; omega
    have b6 : ((k : Int) == 6) = false := by simp; omega
    have b29 : ((k : Int) == 29) = false := by simp; omega
    have b28 : ((k : Int) == 28) = false := by simp; omega
    have b7 : ((k : Int) == 7) = false := by simp; omega
    have b26 : ((k : Int) == 26) = false := by simp; omega
    have b27 : ((k : Int) == 27) = false := by simp; omega
    clear h
    go_enter Tryd.func37, Tryd.ntmps37
    go_wp2_with fail
    refine bodyPost_ret (results_cell_tmp_row rfl _ _ w.heap.size 72 _ _ rfl (Blk.new _ _ _) Tryd.underlying72 rfl (by kernel_rfl)) rfl ⟨?_, (Mod.refl _ _).alloc _⟩
    unfold shS
    rw [HN.out]
    rfl
end Go.Proofs.YtbjmcnmcodbkdaaDoor

/-
  frames: clear.
-/
namespace Go.Proofs.YtbjmcnmcodbkdaaDoor
open Go.RowKit

/-- behind j rounds -/
def clrN (j n : Nat) (f : Fr) : Fr := { f with a := if 0 < j ∧ 0 < n then 0 else f.a, b := if 1 < j ∧ 1 < n then 0 else f.b, c := if 2 < j ∧ 2 < n then 0 else f.c }
def fclr (s : Shp) (f : Fr) : Fr := { clrN 3 s.n f with kind := 0, data := if s.t = true ∨ 0 < s.x then ⟨#[]⟩ else f.data }
theorem fclr_clear (s : Shp) (f : Fr) : fsame (fclr s f) fr0 = fclear s f := by
  rw [Bool.eq_iff_iff, fsame_iff]
  constructor
  · intro h
    have h1 := congrArg Fr.a h
    have h2 := congrArg Fr.b h
    have h3 := congrArg Fr.c h
    have h4 := congrArg Fr.fin h
    have h5 := congrArg Fr.data h
    have h6 := congrArg Fr.more h
    have h7 := congrArg Fr.list h
    simp only [fclr, clrN, fr0] at h1 h2 h3 h4 h5 h6 h7
    unfold fclear
    simp only [Bool.and_eq_true, Bool.or_eq_true, decide_eq_true_eq, Bool.not_eq_true']
    refine ⟨⟨⟨⟨⟨⟨?_, ?_⟩, ?_⟩, h4⟩, ?_⟩, by rw [h6]; rfl⟩, h7⟩
    · split at h1 <;> omega
    · split at h2 <;> omega
    · split at h3 <;> omega
    · split at h5
      · rename_i h; rcases h with h | h <;> simp [h]
      · right; rw [h5]; rfl
  · intro h
    obtain ⟨h1, h2, h3, h4, h5, h6, h7⟩ := fclear_parts h
    refine Fr.ext' rfl ?_ ?_ ?_ h4 ?_ (size0 h6) h7
    · simp only [fclr, clrN, fr0]; split <;> omega
    · simp only [fclr, clrN, fr0]; split <;> omega
    · simp only [fclr, clrN, fr0]; split <;> omega
    · simp only [fclr, fr0]
      split
      · rfl
      · rename_i hn
        rcases h5 with h | h | h
        · exact absurd (.inl h) hn
        · exact absurd (.inr h) hn
        · exact size0 h

set_option maxRecDepth 100000 in
set_option maxHeartbeats 4000000 in
theorem clear_any (w : World) (s : Shp) (hs : s.n ≤ 3) (hx : s.x ≤ 8) (A : Option Addr) (m c : Nat) (f : Fr) :
    Calls Tryd.prog 39 #[shval s, fval A m c f] w fun e w' => e = .returned (fval A m c (fclr s f)) ∧ Mod [] w w' := by
  obtain ⟨n, t, x⟩ := s
  simp only at hs hx
  have hfb : Blk ((w.alloc (.cells #[.int .i64 (n : Nat), .bool t, .int .i64 (x : Nat)] 72)).alloc (.cells (fcs A m c f) 26)) (w.heap.size + 1) 26 (fcs A m c f) := by
    have := Blk.new (w.alloc (.cells #[.int .i64 (n : Nat), .bool t, .int .i64 (x : Nat)] 72)) 26 (fcs A m c f)
    rw [World.size_alloc] at this
    exact this
  have hsb : Blk ((w.alloc (.cells #[.int .i64 (n : Nat), .bool t, .int .i64 (x : Nat)] 72)).alloc (.cells (fcs A m c f) 26)) w.heap.size 72 #[.int .i64 (n : Nat), .bool t, .int .i64 (x : Nat)] := (Blk.new _ _ _).alloc _
  have hm : Mod [] w ((w.alloc (.cells #[.int .i64 (n : Nat), .bool t, .int .i64 (x : Nat)] 72)).alloc (.cells (fcs A m c f) 26)) := ((Mod.refl _ _).alloc _).alloc _
  have HFB := hide hfb
  have HSB := hide hsb
  have HM := hide hm
  clear hfb hsb hm
  unfold shval fval fcs at *
  go_enter Tryd.func39, Tryd.ntmps39
  go_wp2_with fail
  have hrb : Blk (((w.alloc (.cells #[.int .i64 (n : Nat), .bool t, .int .i64 (x : Nat)] 72)).alloc (.cells (fcs A m c f) 26)).alloc (.cells (fcs none 0 0 fr0) 26)) (w.heap.size + 1 + 1) 26 (fcs none 0 0 fr0) := by
    have := Blk.new ((w.alloc (.cells #[.int .i64 (n : Nat), .bool t, .int .i64 (x : Nat)] 72)).alloc (.cells (fcs A m c f) 26)) 26 (fcs none 0 0 fr0)
    rw [World.size_alloc, World.size_alloc] at this
    exact this
  have hpb : Blk ((((w.alloc (.cells #[.int .i64 (n : Nat), .bool t, .int .i64 (x : Nat)] 72)).alloc (.cells (fcs A m c f) 26)).alloc (.cells (fcs none 0 0 fr0) 26)).alloc (.cells #[.pointer (some ⟨w.heap.size + 1, 1, none⟩), .pointer (some ⟨w.heap.size + 1, 2, none⟩), .pointer (some ⟨w.heap.size + 1, 3, none⟩)] 92)) (w.heap.size + 1 + 1 + 1) 92 #[.pointer (some ⟨w.heap.size + 1, 1, none⟩), .pointer (some ⟨w.heap.size + 1, 2, none⟩), .pointer (some ⟨w.heap.size + 1, 3, none⟩)] := by
    have := Blk.new (((w.alloc (.cells #[.int .i64 (n : Nat), .bool t, .int .i64 (x : Nat)] 72)).alloc (.cells (fcs A m c f) 26)).alloc (.cells (fcs none 0 0 fr0) 26)) 92 #[.pointer (some ⟨w.heap.size + 1, 1, none⟩), .pointer (some ⟨w.heap.size + 1, 2, none⟩), .pointer (some ⟨w.heap.size + 1, 3, none⟩)]
    rw [World.size_alloc, World.size_alloc, World.size_alloc] at this
    exact this
  have hrb4 := hrb.alloc (.cells #[.pointer (some ⟨w.heap.size + 1, 1, none⟩), .pointer (some ⟨w.heap.size + 1, 2, none⟩), .pointer (some ⟨w.heap.size + 1, 3, none⟩)] 92)
  have hfb4 := (HFB.out.alloc (.cells (fcs none 0 0 fr0) 26)).alloc (.cells #[.pointer (some ⟨w.heap.size + 1, 1, none⟩), .pointer (some ⟨w.heap.size + 1, 2, none⟩), .pointer (some ⟨w.heap.size + 1, 3, none⟩)] 92)
  have hsb4 := (HSB.out.alloc (.cells (fcs none 0 0 fr0) 26)).alloc (.cells #[.pointer (some ⟨w.heap.size + 1, 1, none⟩), .pointer (some ⟨w.heap.size + 1, 2, none⟩), .pointer (some ⟨w.heap.size + 1, 3, none⟩)] 92)
  have hm4 := (HM.out.alloc (.cells (fcs none 0 0 fr0) 26)).alloc (.cells #[.pointer (some ⟨w.heap.size + 1, 1, none⟩), .pointer (some ⟨w.heap.size + 1, 2, none⟩), .pointer (some ⟨w.heap.size + 1, 3, none⟩)] 92)
  obtain ⟨w4, hw4⟩ : ∃ w4, (((w.alloc (.cells #[.int .i64 (n : Nat), .bool t, .int .i64 (x : Nat)] 72)).alloc (.cells (fcs A m c f) 26)).alloc (.cells (fcs none 0 0 fr0) 26)).alloc (.cells #[.pointer (some ⟨w.heap.size + 1, 1, none⟩), .pointer (some ⟨w.heap.size + 1, 2, none⟩), .pointer (some ⟨w.heap.size + 1, 3, none⟩)] 92) = w4 := ⟨_, rfl⟩
  unfold fcs at hw4 hrb4 hpb hfb4 hsb4 hm4
  change Code.wp _ _ _ _ ((((w.alloc (.cells #[.int .i64 (n : Nat), .bool t, .int .i64 (x : Nat)] 72)).alloc (.cells #[.int .u64 (f.kind : Nat), .int .u64 (f.a : Nat), .int .u64 (f.b : Nat), .int .u64 (f.c : Nat), .bool f.fin, .string f.data, .string f.more, .slice A m c] 26)).alloc (.cells #[.int .u64 (fr0.kind : Nat), .int .u64 (fr0.a : Nat), .int .u64 (fr0.b : Nat), .int .u64 (fr0.c : Nat), .bool fr0.fin, .string fr0.data, .string fr0.more, .slice none 0 0] 26)).alloc (.cells #[.pointer (some ⟨w.heap.size + 1, 1, none⟩), .pointer (some ⟨w.heap.size + 1, 2, none⟩), .pointer (some ⟨w.heap.size + 1, 3, none⟩)] 92))
  rw [hw4] at hrb4 hpb hfb4 hsb4 hm4 ⊢
  obtain ⟨sb, hse⟩ : ∃ sb, w.heap.size = sb := ⟨_, rfl⟩
  have hsw : w.heap.size ≤ sb := by omega
  rw [hse] at hrb4 hpb hfb4 hsb4 ⊢
  have HRB := hide hrb4
  have HPB := hide hpb
  have HFB4 := hide hfb4
  have HSB4 := hide hsb4
  have HM4 := hide hm4
  have HSw := hide hsw
  clear HFB HSB HM hrb hrb4 hpb hfb4 hsb4 hm4 hw4 hse hsw
  go_loopw [12] (fun iv wr => ∃ j : Nat, j ≤ 3 ∧ iv = .int .i64 (j : Int) ∧ Blk wr (sb + 1) 26 (fcs A m c (clrN j n f)) ∧ Mod [sb + 1] w4 wr) (fun iv _ => 3 - (intOf iv).toNat)
  case atStart => exact ⟨0, by omega, rfl, HFB4.out, Mod.refl _ _⟩
  case round =>
    clear HFB4
    obtain ⟨j, hj, rfl, hfb, hm⟩ := hrel
    have hsb := hm.blk HSB4.out (by simp)
    have hpb := hm.blk HPB.out (by simp; omega)
    have s0 : wr.cell? ⟨sb, 0, none⟩ = some (.int .i64 (n : Nat)) := hsb.cell 0
    have hsl := hsb.lt
    have hpl := hpb.lt
    have hfl := hfb.lt
    by_cases h : j < 3
    · have hfz := hfb.frozen (j + 1)
      by_cases hn : j < n
      · have hset := hfb.set_ (j + 1) (.int .u64 0)
        have hlt : decide ((j : Int) < n) = true := decide_eq_true (by omega)
        have j3 : j = 0 ∨ j = 1 ∨ j = 2 := by omega
        rcases j3 with rfl | rfl | rfl
        · have p0 : wr.cell? ⟨sb + 1 + 1 + 1, 0, none⟩ = some (.pointer (some ⟨sb + 1, 1, none⟩)) := hpb.cell 0
          have c0 : wr.cell? ⟨sb + 1, 1, none⟩ = some (.int .u64 ((clrN 0 n f).a : Nat)) := hfb.cell 1
          have hfin : (fcs A m c (clrN 0 n f)).setIfInBounds 1 (.int .u64 0) = fcs A m c (clrN 1 n f) := by
            have e : clrN 1 n f = { clrN 0 n f with a := 0 } := by
              unfold clrN
              refine Fr.ext' rfl ?_ ?_ ?_ rfl rfl rfl rfl <;> (simp only; repeat' split) <;> first | rfl | omega
            rw [e]
            simp [fcs]
          rw [hfin] at hset
          have HS := hide hset
          clear hset hfin hsb hpb hfb
          go_wp2_with fail
          go_roundw
          case rel => exact ⟨1, by omega, by go_num, HS.out, hm.setCell (.inl (by simp)) _⟩
          case measure => simp [intOf]
        · have p0 : wr.cell? ⟨sb + 1 + 1 + 1, 1, none⟩ = some (.pointer (some ⟨sb + 1, 2, none⟩)) := hpb.cell 1
          have c0 : wr.cell? ⟨sb + 1, 2, none⟩ = some (.int .u64 ((clrN 1 n f).b : Nat)) := hfb.cell 2
          have hfin : (fcs A m c (clrN 1 n f)).setIfInBounds 2 (.int .u64 0) = fcs A m c (clrN 2 n f) := by
            have e : clrN 2 n f = { clrN 1 n f with b := 0 } := by
              unfold clrN
              refine Fr.ext' rfl ?_ ?_ ?_ rfl rfl rfl rfl <;> (simp only; repeat' split) <;> first | rfl | omega
            rw [e]
            simp [fcs]
          rw [hfin] at hset
          have HS := hide hset
          clear hset hfin hsb hpb hfb
          go_wp2_with fail
          go_roundw
          case rel => exact ⟨2, by omega, by go_num, HS.out, hm.setCell (.inl (by simp)) _⟩
          case measure => simp [intOf]
        · have p0 : wr.cell? ⟨sb + 1 + 1 + 1, 2, none⟩ = some (.pointer (some ⟨sb + 1, 3, none⟩)) := hpb.cell 2
          have c0 : wr.cell? ⟨sb + 1, 3, none⟩ = some (.int .u64 ((clrN 2 n f).c : Nat)) := hfb.cell 3
          have hfin : (fcs A m c (clrN 2 n f)).setIfInBounds 3 (.int .u64 0) = fcs A m c (clrN 3 n f) := by
            have e : clrN 3 n f = { clrN 2 n f with c := 0 } := by
              unfold clrN
              refine Fr.ext' rfl ?_ ?_ ?_ rfl rfl rfl rfl <;> (simp only; repeat' split) <;> first | rfl | omega
            rw [e]
            simp [fcs]
          rw [hfin] at hset
          have HS := hide hset
          clear hset hfin hsb hpb hfb
          go_wp2_with fail
          go_roundw
          case rel => exact ⟨3, by omega, by go_num, HS.out, hm.setCell (.inl (by simp)) _⟩
          case measure => simp [intOf]
      · have hlt : decide ((j : Int) < n) = false := decide_eq_false (by omega)
        have hfin : clrN (j + 1) n f = clrN j n f := by
          unfold clrN
          refine Fr.ext' rfl ?_ ?_ ?_ rfl rfl rfl rfl <;> (simp only; repeat' split) <;> first | rfl | omega
        rw [← hfin] at hfb
        have j3 : j = 0 ∨ j = 1 ∨ j = 2 := by omega
        rcases j3 with rfl | rfl | rfl
        · have p0 : wr.cell? ⟨sb + 1 + 1 + 1, 0, none⟩ = some (.pointer (some ⟨sb + 1, 1, none⟩)) := hpb.cell 0
          have HS := hide hfb
          clear hfin hsb hpb hfb
          go_wp2_with fail
          go_roundw
          case rel => exact ⟨1, by omega, by go_num, HS.out, hm⟩
          case measure => simp [intOf]
        · have p0 : wr.cell? ⟨sb + 1 + 1 + 1, 1, none⟩ = some (.pointer (some ⟨sb + 1, 2, none⟩)) := hpb.cell 1
          have HS := hide hfb
          clear hfin hsb hpb hfb
          go_wp2_with fail
          go_roundw
          case rel => exact ⟨2, by omega, by go_num, HS.out, hm⟩
          case measure => simp [intOf]
        · have p0 : wr.cell? ⟨sb + 1 + 1 + 1, 2, none⟩ = some (.pointer (some ⟨sb + 1, 3, none⟩)) := hpb.cell 2
          have HS := hide hfb
          clear hfin hsb hpb hfb
          go_wp2_with fail
          go_roundw
          case rel => exact ⟨3, by omega, by go_num, HS.out, hm⟩
          case measure => simp [intOf]
    · have hj3 : j = 3 := by omega
      subst hj3
      have hrr := hm.blk HRB.out (by simp)
      have HRR := hide hrr
      have s1 : wr.cell? ⟨sb, 1, none⟩ = some (.bool t) := hsb.cell 1
      have s2 : wr.cell? ⟨sb, 2, none⟩ = some (.int .i64 (x : Nat)) := hsb.cell 2
      have hrl := hrr.lt
      have hclr : ∀ D : ByteArray, D = (if t = true ∨ 0 < x then ⟨#[]⟩ else f.data) → fclr ⟨n, t, x⟩ f = { clrN 3 n f with kind := 0, data := D } := fun D hD => by
        rw [hD]; rfl
      have hdf : (clrN 3 n f).data = f.data := rfl
      have HClr := hide hclr
      obtain ⟨F, hF⟩ : ∃ F, clrN 3 n f = F := ⟨_, rfl⟩
      rw [hF] at HClr hfb hdf
      have HDf := hide hdf
      have r0 : wr.frozen? ⟨sb + 1 + 1, 0, none⟩ = false := HRR.out.frozen 0
      have r1 : wr.frozen? ⟨sb + 1 + 1, 1, none⟩ = false := HRR.out.frozen 1
      have r2 : wr.frozen? ⟨sb + 1 + 1, 2, none⟩ = false := HRR.out.frozen 2
      have r3 : wr.frozen? ⟨sb + 1 + 1, 3, none⟩ = false := HRR.out.frozen 3
      have r4 : wr.frozen? ⟨sb + 1 + 1, 4, none⟩ = false := HRR.out.frozen 4
      have r5 : wr.frozen? ⟨sb + 1 + 1, 5, none⟩ = false := HRR.out.frozen 5
      have r6 : wr.frozen? ⟨sb + 1 + 1, 6, none⟩ = false := HRR.out.frozen 6
      have r7 : wr.frozen? ⟨sb + 1 + 1, 7, none⟩ = false := HRR.out.frozen 7
      have z0 : wr.cell? ⟨sb + 1 + 1, 0, none⟩ = some (.int .u64 0) := HRR.out.cell 0
      have z1 : wr.cell? ⟨sb + 1 + 1, 1, none⟩ = some (.int .u64 0) := HRR.out.cell 1
      have z2 : wr.cell? ⟨sb + 1 + 1, 2, none⟩ = some (.int .u64 0) := HRR.out.cell 2
      have z3 : wr.cell? ⟨sb + 1 + 1, 3, none⟩ = some (.int .u64 0) := HRR.out.cell 3
      have z4 : wr.cell? ⟨sb + 1 + 1, 4, none⟩ = some (.bool false) := HRR.out.cell 4
      have z5 : wr.cell? ⟨sb + 1 + 1, 5, none⟩ = some (.string ⟨#[]⟩) := HRR.out.cell 5
      have z6 : wr.cell? ⟨sb + 1 + 1, 6, none⟩ = some (.string ⟨#[]⟩) := HRR.out.cell 6
      have z7 : wr.cell? ⟨sb + 1 + 1, 7, none⟩ = some (.slice none 0 0) := HRR.out.cell 7
      have c0 : wr.cell? ⟨sb + 1, 0, none⟩ = some (.int .u64 (F.kind : Nat)) := hfb.cell 0
      have c1 : wr.cell? ⟨sb + 1, 1, none⟩ = some (.int .u64 (F.a : Nat)) := hfb.cell 1
      have c2 : wr.cell? ⟨sb + 1, 2, none⟩ = some (.int .u64 (F.b : Nat)) := hfb.cell 2
      have c3 : wr.cell? ⟨sb + 1, 3, none⟩ = some (.int .u64 (F.c : Nat)) := hfb.cell 3
      have c4 : wr.cell? ⟨sb + 1, 4, none⟩ = some (.bool F.fin) := hfb.cell 4
      have c5 : wr.cell? ⟨sb + 1, 5, none⟩ = some (.string F.data) := hfb.cell 5
      have c6 : wr.cell? ⟨sb + 1, 6, none⟩ = some (.string F.more) := hfb.cell 6
      have c7 : wr.cell? ⟨sb + 1, 7, none⟩ = some (.slice A m c) := hfb.cell 7
      have ff5 := hfb.frozen 5
      have ff0 := hfb.frozen 0
      have hb1 := hrr
      have HFb := hide hfb
      clear hrr hsb hpb hfb hclr hF hdf s0 h
      by_cases htx : t = true ∨ 0 < x
      · have hcl := HClr.out ⟨#[]⟩ (by rw [if_pos htx])
        have HCl := hide hcl
        have hb2 := ((hb1.far (p := ⟨sb + 1, 5, none⟩) (by show sb + 1 + 1 ≠ sb + 1; omega) (.string ⟨#[]⟩)).far (p := ⟨sb + 1, 0, none⟩) (by show sb + 1 + 1 ≠ sb + 1; omega) (.int .u64 0)).sets (fun i => (fcs A m c { F with kind := 0, data := ⟨#[]⟩ }).getD i undef) (List.range 8)
        rw [sets_eq _ _ 8 rfl rfl] at hb2
        have hmf := ((hm.setCell (p := ⟨sb + 1, 5, none⟩) (.inl (by simp)) (.string ⟨#[]⟩)).setCell (p := ⟨sb + 1, 0, none⟩) (.inl (by simp)) (.int .u64 0)) 
        have hmf2 := ((HM4.out.trans hmf (fun y hy => by simp at hy; have := HSw.out; right; omega)).sets (g := sb + 1 + 1) (.inr (by have := HSw.out; omega)) (fun i => (fcs A m c { F with kind := 0, data := ⟨#[]⟩ }).getD i undef) (List.range 8))
        have HB2 := hide hb2
        have HMF := hide hmf2
        clear hcl hb2 hmf hmf2 HClr hb1 hm
        by_cases ht : t = true
        · rw [ht] at s1
          have HT := hide ht
          clear htx ht
          go_wp2_with fail
          refine bodyPost_ret (results_cell_row rfl _ _ (sb + 1 + 1) 26 (fcs A m c { F with kind := 0, data := ⟨#[]⟩ }) (0, 0) _ rfl ?_ Tryd.underlying26 rfl (by kernel_rfl)) rfl ?_
          · exact HB2.out
          refine ⟨?_, ?_⟩
          · rw [HCl.out]
            rfl
          exact HMF.out
        · have ht2 : t = false := by simpa using ht
          rw [ht2] at s1
          have HT := hide ht2
          have hx1 : 0 < x := by rcases htx with h | h; exact absurd h ht; exact h
          have hx0 : decide ((0 : Int) < x) = true := decide_eq_true (by omega)
          have hx2 : decide (0 < x) = true := decide_eq_true hx1
          clear htx ht ht2
          go_wp2_with fail
          refine bodyPost_ret (results_cell_row rfl _ _ (sb + 1 + 1) 26 (fcs A m c { F with kind := 0, data := ⟨#[]⟩ }) (0, 0) _ rfl ?_ Tryd.underlying26 rfl (by kernel_rfl)) rfl ?_
          · exact HB2.out
          refine ⟨?_, ?_⟩
          · rw [HCl.out]
            rfl
          exact HMF.out
      · have hcl := HClr.out f.data (by rw [if_neg htx])
        rw [← HDf.out] at hcl
        have HCl := hide hcl
        have hb2 := (hb1.far (p := ⟨sb + 1, 0, none⟩) (by show sb + 1 + 1 ≠ sb + 1; omega) (.int .u64 0)).sets (fun i => (fcs A m c { F with kind := 0, data := F.data }).getD i undef) (List.range 8)
        rw [sets_eq _ _ 8 rfl rfl] at hb2
        have hmf := hm.setCell (p := ⟨sb + 1, 0, none⟩) (.inl (by simp)) (.int .u64 0)
        have hmf2 := ((HM4.out.trans hmf (fun y hy => by simp at hy; have := HSw.out; right; omega)).sets (g := sb + 1 + 1) (.inr (by have := HSw.out; omega)) (fun i => (fcs A m c { F with kind := 0, data := F.data }).getD i undef) (List.range 8))
        have HB2 := hide hb2
        have HMF := hide hmf2
        have ht : t = false := by
          cases ht : t
          · rfl
          · exact absurd (.inl ht) htx
        have hx1 : ¬ 0 < x := fun h => htx (.inr h)
        have hx0 : decide ((0 : Int) < x) = false := decide_eq_false (by omega)
        have hx2 : decide (0 < x) = false := decide_eq_false hx1
        rw [ht] at s1
        have HT := hide ht
        clear hcl hb2 hmf hmf2 HClr hb1 hm htx ht
        go_wp2_with fail
        refine bodyPost_ret (results_cell_row rfl _ _ (sb + 1 + 1) 26 (fcs A m c { F with kind := 0, data := F.data }) (0, 0) _ rfl ?_ Tryd.underlying26 rfl (by kernel_rfl)) rfl ?_
        · exact HB2.out
        refine ⟨?_, ?_⟩
        · rw [HCl.out]
          rfl
        exact HMF.out
end Go.Proofs.YtbjmcnmcodbkdaaDoor

/-
  frames: number, bytes, put, text.
-/
namespace Go.Proofs.YtbjmcnmcodbkdaaDoor
open Go.RowKit

set_option maxRecDepth 100000 in
set_option maxHeartbeats 2000000 in
theorem number_any (w : World) (Y : ByteArray) (hY : Y.size ≤ 8) :
    Calls Tryd.prog 73 #[.string Y] w fun e w' => e = .returned (.int .u64 (numF 0 Y.data.toList : Nat)) ∧ Mod [] w w' := by
  obtain ⟨D, hD⟩ : ∃ D, Y.data.toList = D := ⟨_, rfl⟩
  have hDl : D.length = Y.size := by rw [← hD]; exact Array.length_toList
  have hcv := Lib.run_convert_string_bytes (P := Tryd.prog) w 9 55 5 Y Tryd.underlying9 Tryd.underlying55 Tryd.underlying5
  obtain ⟨m, hm⟩ : ∃ m, Y.size = m := ⟨_, rfl⟩
  obtain ⟨cap, hcap⟩ : ∃ cap, grownCap w Y.size 0 5 = cap := ⟨_, rfl⟩
  rw [hcap, hm] at hcv
  have hcell : ∀ j (h : j < D.length), (Lib.bytesWorld w 5 Y).cell? ⟨w.heap.size, j, none⟩ = some (.int .u8 (D[j].toNat : Int)) := fun j h => by
    rw [Lib.bytesWorld_cell w _ _ _ (by omega), hD]
    simp [h]
  have hmod : Mod [] w (Lib.bytesWorld w 5 Y) := ⟨rfl, rfl, rfl, by rw [Lib.bytesWorld_size]; omega, fun j hj _ => Lib.bytesWorld_at_old w _ _ j hj⟩
  have hszb := Lib.bytesWorld_size w 5 Y
  obtain ⟨wb, hwb⟩ : ∃ wb, Lib.bytesWorld w 5 Y = wb := ⟨_, rfl⟩
  rw [hwb] at hcv hcell hmod hszb
  rw [hm] at hDl hY
  have HCell := hide hcell
  have HDl := hide hDl
  rw [hD]
  clear hm hD hcap hwb hcell hDl
  go_enter Tryd.func73, Tryd.ntmps73
  go_wp2_with fail
  go_loopw [3, 9] (fun n i wr => ∃ j : Nat, j ≤ m ∧ i = .int .i64 (j : Int) ∧ n = .int .u64 (numF 0 (D.take j) : Nat) ∧ wr = wb) (fun _ i _ => m - (intOf i).toNat)
  case atStart => exact ⟨0, by omega, rfl, rfl, by trivial⟩
  case round =>
    obtain ⟨j, hj, rfl, rfl, rfl⟩ := hrel
    by_cases h : j < m
    · have hjl : j < D.length := by rw [HDl.out]; exact h
      have c0 := HCell.out j hjl
      obtain ⟨d, hd⟩ : ∃ d, D[j]'hjl = d := ⟨_, rfl⟩
      rw [hd] at c0
      have hnext : numF 0 (D.take (j + 1)) = numF 0 (D.take j) * 256 + d.toNat := by
        rw [← List.take_append_getElem hjl, hd]
        simp [numF]
      have hbound : numF 0 (D.take j) < 256 ^ j := by
        have h1 := numF_lt (D.take j)
        have h2 : (D.take j).length = j := by rw [List.length_take]; omega
        rw [h2] at h1
        exact h1
      have hp : (256 : Nat) ^ j ≤ 256 ^ 7 := Nat.pow_le_pow_right (by omega) (by omega)
      obtain ⟨N, hN⟩ : ∃ N, numF 0 (D.take j) = N := ⟨_, rfl⟩
      rw [hN] at hnext hbound ⊢
      have hNb : N < 72057594037927936 := by
        have : (256 : Nat) ^ 7 = 72057594037927936 := rfl
        omega
      have hd256 := d.toNat_lt
      have hor : bits .or .u64 ((N : Int) * 256) (d.toNat : Int) = (N : Int) * 256 + d.toNat := by
        have e := bits_or_u64_nat (N * 256) d.toNat (by omega) (by omega)
        have e2 := Nat.shiftLeft_add_eq_or_of_lt (b := d.toNat) (i := 8) (by omega) N
        rw [Nat.shiftLeft_eq, show 2 ^ 8 = 256 from rfl] at e2
        rw [← e2] at e
        simpa using e
      have HNext := hide hnext
      clear hnext hbound hp hN hd
      go_wp2_with fail
      go_roundw
      case rel => exact ⟨j + 1, by omega, by go_num, by rw [HNext.out]; go_num, by trivial⟩
      case measure => simp [intOf]; omega
    · have hjm : j = m := by omega
      subst hjm
      rw [List.take_of_length_le (by rw [HDl.out]; exact Nat.le_refl _)]
      obtain ⟨N, hN⟩ : ∃ N, numF 0 D = N := ⟨_, rfl⟩
      rw [hN]
      have HN := hide hN
      clear hN
      go_wp2_with fail
      go_ret
      exact ⟨by rw [HN.out]; rfl, hmod⟩

/-- the bytes of n that are set behind j rounds, from the high end -/
def lcells (n j : Nat) : Array Value := ((List.range 8).map fun m => if m < j then Value.int .u8 ((n / 256 ^ (7 - m) % 256 : Nat) : Int) else .int .u8 0).toArray
theorem lcells_size (n j : Nat) : (lcells n j).size = 8 := by simp [lcells]
theorem lcells_zero (n : Nat) : lcells n 0 = Array.replicate 8 (.int .u8 0) := by
  apply Array.ext
  · simp [lcells]
  · intro i h1 h2
    simp [lcells]
theorem lcells_set (n j : Nat) : (lcells n j).setIfInBounds j (.int .u8 ((n / 256 ^ (7 - j) % 256 : Nat) : Int)) = lcells n (j + 1) := by
  apply Array.ext
  · simp [lcells]
  · intro i h1 h2
    simp only [Array.size_setIfInBounds, lcells_size] at h1
    rw [Array.getElem_setIfInBounds]
    by_cases e : j = i
    · rw [if_pos e]
      simp only [lcells, List.getElem_toArray, List.getElem_map, List.getElem_range]
      rw [if_pos (by omega), e]
    · rw [if_neg e]
      simp only [lcells, List.getElem_toArray, List.getElem_map, List.getElem_range]
      by_cases h3 : i < j
      · rw [if_pos h3, if_pos (by omega)]
      · rw [if_neg h3, if_neg (by omega)]
    · simpa [lcells_size] using h1
theorem lcells_all (n : Nat) : lcells n 8 = ((be n 8).map bv).toArray := by
  apply Array.ext
  · simp [lcells, be_length]
  · intro i h1 h2
    rw [lcells_size] at h1
    simp only [lcells, List.getElem_toArray, List.getElem_map, List.getElem_range]
    rw [if_pos (by omega)]
    have := be_get n 8 i h1
    rw [List.getElem?_eq_getElem (by rw [be_length]; exact h1)] at this
    rw [Option.some.inj this]
    simp [bv, UInt8.toNat_ofNat']
theorem mk8 : madeCells #[Value.int .u8 0] 8 = Array.replicate 8 (.int .u8 0) := by
  apply Array.ext'
  rw [toList_madeCells_one]; simp

set_option maxRecDepth 100000 in
set_option maxHeartbeats 4000000 in
theorem fbytes8_any (w : World) (n : Nat) (hn : n ≤ 18446744073709551615) :
    Calls Tryd.prog 69 #[.int .u64 n] w fun e w' => e = .returned (str (be n 8)) ∧ Mod [] w w' := by
  have hmk := fun w => (Go.run_make_row' (P := Tryd.prog) 55 5 (.int .u8 0) 1 Tryd.underlying55 u8info rfl .i64 .i64 8 (by omega) (by omega) w).trans (by rw [mk8])
  push_cast at hmk
  have hb0 : Blk (w.alloc (.cells (Array.replicate 8 (.int .u8 0)) 5)) w.heap.size 5 (lcells n 0) := by rw [lcells_zero]; exact Blk.new w _ _
  have hm0 : Mod [] w (w.alloc (.cells (Array.replicate 8 (.int .u8 0)) 5)) := (Mod.refl _ _).alloc _
  have HB0 := hide hb0
  have HM0 := hide hm0
  clear hb0 hm0
  go_enter Tryd.func69, Tryd.ntmps69
  go_wp2_with fail
  go_loopw [8] (fun i wr => ∃ j : Nat, j ≤ 8 ∧ i = .int .i64 (j : Int) ∧ Blk wr w.heap.size 5 (lcells n j) ∧ Mod [] w wr) (fun i _ => 8 - (intOf i).toNat)
  case atStart => exact ⟨0, by omega, rfl, HB0.out, HM0.out⟩
  case round =>
    clear HB0 HM0
    obtain ⟨j, hj, rfl, hb, hm⟩ := hrel
    have hlt := hb.lt
    have hfz := hb.frozen j
    by_cases h : j < 8
    · have hc : (lcells n j)[j]? = some ((lcells n j)[j]'(by rw [lcells_size]; omega)) := Array.getElem?_eq_getElem _
      have c0 : ∃ v, wr.cell? ⟨w.heap.size, j, none⟩ = some v := ⟨_, (hb.cell j).trans hc⟩
      obtain ⟨v0, c0⟩ := c0
      have hset := hb.set_ j (.int .u8 ((n / 256 ^ (7 - j) % 256 : Nat) : Int))
      rw [lcells_set n j] at hset
      have j8 : j = 0 ∨ j = 1 ∨ j = 2 ∨ j = 3 ∨ j = 4 ∨ j = 5 ∨ j = 6 ∨ j = 7 := by omega
      have HSet := hide hset
      clear hset hc hb
      rcases j8 with rfl | rfl | rfl | rfl | rfl | rfl | rfl | rfl
      · have hs : Blk (wr.setCell ⟨w.heap.size, 0, none⟩ (.int .u8 ((n : Int) / 72057594037927936))) w.heap.size 5 (lcells n 1) := by
          have h1 := HSet.out
          have h2 : (256 : Nat) ^ (7 - 0) = 72057594037927936 := rfl
          have h3 : ((n / 256 ^ (7 - 0) % 256 : Nat) : Int) = (n : Int) / 72057594037927936 := by rw [h2]; omega
          rw [h3] at h1
          exact h1
        have HS := hide hs
        clear hs
        go_wp2_with fail
        go_roundw
        case rel => exact ⟨1, by omega, by go_num, HS.out, hm.setCell (.inr (Nat.le_refl _)) _⟩
        case measure => simp [intOf]
      · have hs : Blk (wr.setCell ⟨w.heap.size, 1, none⟩ (.int .u8 ((n : Int) / 281474976710656 % 256))) w.heap.size 5 (lcells n 2) := by
          have h1 := HSet.out
          have h2 : (256 : Nat) ^ (7 - 1) = 281474976710656 := rfl
          have h3 : ((n / 256 ^ (7 - 1) % 256 : Nat) : Int) = (n : Int) / 281474976710656 % 256 := by rw [h2]; omega
          rw [h3] at h1
          exact h1
        have HS := hide hs
        clear hs
        go_wp2_with fail
        go_roundw
        case rel => exact ⟨2, by omega, by go_num, HS.out, hm.setCell (.inr (Nat.le_refl _)) _⟩
        case measure => simp [intOf]
      · have hs : Blk (wr.setCell ⟨w.heap.size, 2, none⟩ (.int .u8 ((n : Int) / 1099511627776 % 256))) w.heap.size 5 (lcells n 3) := by
          have h1 := HSet.out
          have h2 : (256 : Nat) ^ (7 - 2) = 1099511627776 := rfl
          have h3 : ((n / 256 ^ (7 - 2) % 256 : Nat) : Int) = (n : Int) / 1099511627776 % 256 := by rw [h2]; omega
          rw [h3] at h1
          exact h1
        have HS := hide hs
        clear hs
        go_wp2_with fail
        go_roundw
        case rel => exact ⟨3, by omega, by go_num, HS.out, hm.setCell (.inr (Nat.le_refl _)) _⟩
        case measure => simp [intOf]
      · have hs : Blk (wr.setCell ⟨w.heap.size, 3, none⟩ (.int .u8 ((n : Int) / 4294967296 % 256))) w.heap.size 5 (lcells n 4) := by
          have h1 := HSet.out
          have h2 : (256 : Nat) ^ (7 - 3) = 4294967296 := rfl
          have h3 : ((n / 256 ^ (7 - 3) % 256 : Nat) : Int) = (n : Int) / 4294967296 % 256 := by rw [h2]; omega
          rw [h3] at h1
          exact h1
        have HS := hide hs
        clear hs
        go_wp2_with fail
        go_roundw
        case rel => exact ⟨4, by omega, by go_num, HS.out, hm.setCell (.inr (Nat.le_refl _)) _⟩
        case measure => simp [intOf]
      · have hs : Blk (wr.setCell ⟨w.heap.size, 4, none⟩ (.int .u8 ((n : Int) / 16777216 % 256))) w.heap.size 5 (lcells n 5) := by
          have h1 := HSet.out
          have h2 : (256 : Nat) ^ (7 - 4) = 16777216 := rfl
          have h3 : ((n / 256 ^ (7 - 4) % 256 : Nat) : Int) = (n : Int) / 16777216 % 256 := by rw [h2]; omega
          rw [h3] at h1
          exact h1
        have HS := hide hs
        clear hs
        go_wp2_with fail
        go_roundw
        case rel => exact ⟨5, by omega, by go_num, HS.out, hm.setCell (.inr (Nat.le_refl _)) _⟩
        case measure => simp [intOf]
      · have hs : Blk (wr.setCell ⟨w.heap.size, 5, none⟩ (.int .u8 ((n : Int) / 65536 % 256))) w.heap.size 5 (lcells n 6) := by
          have h1 := HSet.out
          have h2 : (256 : Nat) ^ (7 - 5) = 65536 := rfl
          have h3 : ((n / 256 ^ (7 - 5) % 256 : Nat) : Int) = (n : Int) / 65536 % 256 := by rw [h2]; omega
          rw [h3] at h1
          exact h1
        have HS := hide hs
        clear hs
        go_wp2_with fail
        go_roundw
        case rel => exact ⟨6, by omega, by go_num, HS.out, hm.setCell (.inr (Nat.le_refl _)) _⟩
        case measure => simp [intOf]
      · have hs : Blk (wr.setCell ⟨w.heap.size, 6, none⟩ (.int .u8 ((n : Int) / 256 % 256))) w.heap.size 5 (lcells n 7) := by
          have h1 := HSet.out
          have h2 : (256 : Nat) ^ (7 - 6) = 256 := rfl
          have h3 : ((n / 256 ^ (7 - 6) % 256 : Nat) : Int) = (n : Int) / 256 % 256 := by rw [h2]; omega
          rw [h3] at h1
          exact h1
        have HS := hide hs
        clear hs
        go_wp2_with fail
        go_roundw
        case rel => exact ⟨7, by omega, by go_num, HS.out, hm.setCell (.inr (Nat.le_refl _)) _⟩
        case measure => simp [intOf]
      · have hs : Blk (wr.setCell ⟨w.heap.size, 7, none⟩ (.int .u8 ((n : Int) % 256))) w.heap.size 5 (lcells n 8) := by
          have h1 := HSet.out
          have h2 : (256 : Nat) ^ (7 - 7) = 1 := rfl
          have h3 : ((n / 256 ^ (7 - 7) % 256 : Nat) : Int) = (n : Int) % 256 := by rw [h2]; omega
          rw [h3] at h1
          exact h1
        have HS := hide hs
        clear hs
        go_wp2_with fail
        go_roundw
        case rel => exact ⟨8, by omega, by go_num, HS.out, hm.setCell (.inr (Nat.le_refl _)) _⟩
        case measure => simp [intOf]
    · have hj8 : j = 8 := by omega
      subst hj8
      rw [lcells_all] at hb
      have hcv := conv_bytes _ _ _ [] 8 (by rw [List.append_nil]; exact hb)
      rw [be_length] at hcv
      clear hb h
      go_wp2_with fail
      go_ret
      exact ⟨by rfl, hm⟩

set_option maxHeartbeats 1000000 in
theorem fput_any (w : World) (n : Nat) : Calls Tryd.prog 55 #[.int .u64 n] w fun e w' => e = .returned (str (vputS n)) ∧ Mod [] w w' := by
  go_enter Tryd.func55, Tryd.ntmps55
  go_wp2_with fail
  refine (vput_any w n).mono ?_
  rintro e w1 ⟨rfl, m1⟩
  go_wp2_with fail
  go_ret
  exact ⟨rfl, m1⟩
/-- the bytes of a number, as a string -/
def vputB (n : Nat) : ByteArray := ⟨(vputS n).toArray⟩
theorem vputB_size (n : Nat) : (vputB n).size ≤ 8 := vputS_le n
theorem vputB_list (n : Nat) : (vputB n).data.toList = vputS n := rfl
theorem fputB_any (w : World) (n : Nat) : Calls Tryd.prog 55 #[.int .u64 n] w fun e w' => e = .returned (.string (vputB n)) ∧ Mod [] w w' := fput_any w n

set_option maxHeartbeats 1000000 in
theorem ftext_any (w : World) (s : ByteArray) (hs : s.size ≤ 4611686018427387903) :
    Calls Tryd.prog 56 #[.string s] w fun e w' => e = .returned (.string (vputB s.size ++ s)) ∧ Mod [] w w' := by
  obtain ⟨B, hB⟩ : ∃ B, vputB s.size = B := ⟨_, rfl⟩
  have hBs : B.size ≤ 8 := by rw [← hB]; exact vputB_size _
  have hput := fun w => fputB_any w s.size
  rw [hB] at hput ⊢
  have HP := hide hput
  have hsum : B.size + s.size ≤ 9223372036854775807 := by omega
  clear hB hput
  go_enter Tryd.func56, Tryd.ntmps56
  go_wp2_with fail
  refine (HP.out _).mono ?_
  rintro e w1 ⟨rfl, m1⟩
  go_wp2_with fail
  go_ret
  exact ⟨rfl, m1⟩
end Go.Proofs.YtbjmcnmcodbkdaaDoor
