/-
  parameters: Read.
-/
import Derived.Test.YtampdiplodhkbaaPmSet
import Derived.Laws.ResultCell
namespace Go.Proofs.Ytampdiplodhkbaa
open Go.RowKit

/-- parameters, set one behind the other -/
def pfold : List (Nat × List UInt8) → List Nat → PP → Option PP
  | [], _, p => some p
  | x :: t, seen, p => if seen.contains x.1 then none else if (p.set x.1 x.2).2 then pfold t (x.1 :: seen) (p.set x.1 x.2).1 else none
def pall (l : List (Nat × List UInt8)) : Option PP := (pfold l [] (pfirst ⟨#[]⟩)).bind fun p => if may p then some p else none
def pread (s : List UInt8) : Option PP := (pitems s).bind pall
def pzero : PP := ⟨fun _ => 0, false, ⟨#[]⟩⟩

def seenF (l : List Nat) (x : Int) : Option Value := if l.any (fun y => (y : Int) == x) then some (.bool true) else none
theorem seenF_upd (l : List Nat) (n : Nat) : upd (seenF l) n (some (.bool true)) = seenF (n :: l) := by
  funext x
  unfold upd seenF
  by_cases h : x = n
  · subst h; simp
  · have : ((n : Int) == x) = false := by simp; omega
    rw [if_neg h, List.any_cons, this, Bool.false_or]
theorem seenF_get (l : List Nat) (n : Nat) : (seenF l n).getD (.bool false) = .bool (l.contains n) := by
  unfold seenF
  have : (l.any fun y => (y : Int) == (n : Int)) = l.contains n := by
    rw [List.contains_eq_any_beq]
    congr 1
    funext y
    rw [Bool.eq_iff_iff]; simp only [beq_iff_eq, Int.natCast_inj]; exact eq_comm
  rw [this]
  cases l.contains n <;> rfl
theorem pitems_le : ∀ (k : Nat) (s : List UInt8) (l : List (Nat × List UInt8)), s.length ≤ k → pitems s = some l → ∀ x ∈ l, x.2.length ≤ s.length ∧ x.1 < 4611686018427387904 := by
  intro k
  induction k with
  | zero =>
    intro s l hk h
    obtain rfl := List.eq_nil_of_length_eq_zero (by omega : s.length = 0)
    rw [pitems_nil] at h
    cases h
    simp
  | succ k ih =>
    intro s l hk h
    by_cases hs : s = []
    · subst hs
      rw [pitems_nil] at h
      cases h
      simp
    · rw [pitems_step hs] at h
      split at h
      · cases h
      · obtain ⟨l', hl', rfl⟩ := Option.map_eq_some_iff.1 h
        have h1 := short_rest_lt s hs
        have h2 := short_rest_le (short s).rest
        intro x hx
        rcases List.mem_cons.1 hx with rfl | hx
        · exact ⟨by simp only [List.length_take]; omega, short_n_lt s⟩
        · have := ih _ _ (by rw [List.length_drop]; omega) hl' x hx
          rw [List.length_drop] at this
          exact ⟨by omega, this.2⟩

def ReadPost (w : World) (o : Option PP) (e : Ending) (w' : World) : Prop := Mod [] w w' ∧ match o with
  | none => e = .returned (.tuple #[pval pzero, .int .i64 2])
  | some p => e = .returned (.tuple #[pval p, .int .i64 0])
def ifb {α : Type} (b : Bool) (x : Option α) : Option α := if b then x else none
theorem pfold_step {l : List (Nat × List UInt8)} {j : Nat} (hj : j < l.length) (seen : List Nat) (p : PP) :
    pfold (l.drop j) seen p = ifb (!seen.contains l[j].1 && (p.set l[j].1 l[j].2).2) (pfold (l.drop (j + 1)) (l[j].1 :: seen) (p.set l[j].1 l[j].2).1) := by
  rw [List.drop_eq_getElem_cons hj, pfold]
  unfold ifb
  cases seen.contains l[j].1 <;> cases (p.set l[j].1 l[j].2).2 <;> rfl

theorem results_cell_tmp_row {P : Program} {fn : Func} {p u : Tmp} {ty : TypeId} (h : fn.results = #[.cell p ty, .tmp u]) (tmps : Array Value) (w : World) (g : Nat) (t : TypeId) (cs : Array Value) (d : TypeDesc)
    (hp : tmps.getD p undef = .pointer (some ⟨g, 0, none⟩)) (hg : Blk w g t cs) (hu : P.underlying ty = some d) (hd : (match d with | .struct _ | .array _ _ => true | _ => false) = true) (hi : (P.info? ty).map (·.size) = some cs.size) :
    (results fn tmps).run P w = .ok (.tuple #[.agg cs, tmps.getD u undef]) w := by
  rw [results_cell_tmp h, hp]
  show ((loadVar ty ⟨g, 0, none⟩).run P w).andThen _ = _
  rw [run_loadVar_row w g t ty cs (0, 0) d hg hu hd hi]
  rfl
theorem sets_fold (cs vs : Array Value) (h : cs.size = vs.size) : ∀ k, k ≤ vs.size → (((List.range k).foldl (fun c i => c.setIfInBounds i (vs.getD i undef)) cs).size = vs.size ∧
    ∀ i, i < vs.size → ((List.range k).foldl (fun c i => c.setIfInBounds i (vs.getD i undef)) cs)[i]? = if i < k then vs[i]? else cs[i]?) := by
  intro k
  induction k with
  | zero => intro _; exact ⟨by simpa using h, fun i hi => by simp⟩
  | succ k ih =>
    intro hk
    obtain ⟨h1, h2⟩ := ih (by omega)
    rw [List.range_succ, List.foldl_append]
    simp only [List.foldl_cons, List.foldl_nil]
    refine ⟨by simpa using h1, fun i hi => ?_⟩
    rw [Array.getElem?_setIfInBounds]
    by_cases e : k = i
    · subst e
      rw [if_pos rfl, if_pos (by omega), if_pos (by omega)]
      simp [Array.getD, hi]
    · rw [if_neg e, h2 i hi]
      by_cases h3 : i < k
      · rw [if_pos h3, if_pos (by omega)]
      · rw [if_neg h3, if_neg (by omega)]
theorem sets_eq (cs vs : Array Value) (n : Nat) (h : cs.size = n) (k : vs.size = n) : (List.range n).foldl (fun c i => c.setIfInBounds i (vs.getD i undef)) cs = vs := by
  subst k
  obtain ⟨h1, h2⟩ := sets_fold cs vs h vs.size (Nat.le_refl _)
  apply Array.ext_getElem?
  intro i
  by_cases hi : i < vs.size
  · rw [h2 i hi, if_pos hi]
  · rw [Array.getElem?_eq_none (by omega), Array.getElem?_eq_none (by omega)]
theorem Blk.sets {w : World} {g : Nat} {t : TypeId} {cs : Array Value} (h : Blk w g t cs) (vs : Nat → Value) : ∀ l : List Nat, Blk (l.foldl (fun w i => w.setCell ⟨g, i, none⟩ (vs i)) w) g t (l.foldl (fun c i => c.setIfInBounds i (vs i)) cs)
  | [] => h
  | i :: l => Blk.sets (h.set_ i (vs i)) vs l
theorem Mod.sets {F : List Nat} {a w : World} {g : Nat} (h : Mod F a w) (hg : g ∈ F ∨ a.heap.size ≤ g) (vs : Nat → Value) : ∀ l : List Nat, Mod F a (l.foldl (fun w i => w.setCell ⟨g, i, none⟩ (vs i)) w)
  | [] => h
  | i :: l => Mod.sets (h.setCell (p := ⟨g, i, none⟩) hg (vs i)) hg vs l
theorem ReadPost.none_ {w w' : World} {s : Option PP} {e : Ending} (h : s = none) (hm : Mod [] w w') (he : e = .returned (.tuple #[pval pzero, .int .i64 2])) : ReadPost w s e w' := by
  subst h; exact ⟨hm, he⟩
theorem ReadPost.some_ {w w' : World} {s : Option PP} {p : PP} {e : Ending} (h : s = some p) (hm : Mod [] w w') (he : e = .returned (.tuple #[pval p, .int .i64 0])) : ReadPost w s e w' := by
  subst h; exact ⟨hm, he⟩

set_option maxRecDepth 100000 in
set_option maxHeartbeats 4000000 in
theorem read_any (w : World) (x : ByteArray) (hx : x.size ≤ 65536) :
    Calls Try.prog 10 #[.string x] w (ReadPost w (pread x.data.toList)) := by
  have hmk := @run_makeMap Try.prog
  go_enter Try.func10, Try.ntmps10
  go_wp2_with fail
  refine (items_any _ x hx).mono ?_
  rintro e w1 ⟨m1, hi⟩
  obtain ⟨l, A, c, ok, rfl, hown, hlen, hval, hres⟩ : ∃ (l : List (Nat × List UInt8)) (A : Option Addr) (c : Nat) (ok : Bool), e = .returned (.tuple #[.slice A l.length c, .bool ok]) ∧ w1.ownsRow (w.heap.size + 1) 60 2 (.slice A l.length c) l.length (l.flatMap icells) ∧ l.length ≤ 65536 ∧
      (∀ y ∈ l, y.2.length ≤ 65536 ∧ y.1 < 4611686018427387904) ∧ pread x.data.toList = ifb ok (pall l) := by
    unfold ItemsPost at hi
    unfold pread
    cases hp : pitems x.data.toList with
    | none =>
      rw [hp] at hi
      exact ⟨[], none, 0, false, hi, World.ownsRow_nil _ _ _ _, by simp, by simp, rfl⟩
    | some l =>
      rw [hp] at hi
      obtain ⟨A, c, rfl, hown, hle⟩ := hi
      have e1 : x.data.toList.length = x.size := Array.length_toList
      refine ⟨l, A, c, true, rfl, by simpa using hown, by omega, fun y hy => ?_, rfl⟩
      have := pitems_le _ _ _ (Nat.le_refl _) hp y hy
      exact ⟨by omega, this.2⟩
  obtain ⟨n, hn⟩ : ∃ n, l.length = n := ⟨_, rfl⟩
  rw [hn] at hown hlen ⊢
  have HN := hide hn
  have HVal := hide hval
  have HRes := hide hres
  clear hn hi hval hres
  go_wp2_with fail
  refine (first_any _ _).mono ?_
  rintro e w2 ⟨rfl, m2⟩
  unfold pval
  unfold pcells pfirst
  go_wp2_with fail
  have hb0 : Blk (w.alloc (.cells (pcells pzero) 25)) w.heap.size 25 (pcells pzero) := Blk.new _ _ _
  obtain ⟨w0, hw0⟩ : ∃ w0, w.alloc (.cells (pcells pzero) 25) = w0 := ⟨_, rfl⟩
  have m0 : Mod [] w w0 := by rw [← hw0]; exact (Mod.refl _ _).alloc _
  have hs0 : w0.heap.size = w.heap.size + 1 := by rw [← hw0]; simp
  rw [hw0] at hb0
  replace m1 : Mod [] w0 w1 := by rw [← hw0]; exact m1
  have m2' := m1.trans m2 (by simp)
  have hpb : Blk (w2.alloc (.cells (pcells (pfirst ⟨#[]⟩)) 25)) w2.heap.size 25 (pcells (pfirst ⟨#[]⟩)) := Blk.new _ _ _
  obtain ⟨w3, hw3⟩ : ∃ w3, w2.alloc (.cells (pcells (pfirst ⟨#[]⟩)) 25) = w3 := ⟨_, rfl⟩
  rw [hw3] at hpb
  have hsz3 : w3.heap.size = w2.heap.size + 1 := by rw [← hw3]; simp
  have m3 : Mod [] w0 (w3.alloc (.map #[] 0)) := by rw [← hw3]; exact (m2'.alloc _).alloc _
  have hown3 : (w3.alloc (.map #[] 0)).ownsRow w0.heap.size 60 2 (.slice A n c) n (l.flatMap icells) := by
    rw [hs0, ← hw3]
    exact ((m2.alloc _).alloc _).own hown (by simp)
  have hmap0 : IMap (w3.alloc (.map #[] 0)) w3.heap.size .u64 (seenF []) := IMap.made w3 .u64
  rw [hsz3] at hmap0
  replace hpb := hpb.alloc (.map #[] 0)
  change Code.wp _ _ _ _ ((w2.alloc (.cells (pcells (pfirst ⟨#[]⟩)) 25)).alloc (.map #[] 0))
  rw [hw3]
  have hsz02 := m2'.size
  obtain ⟨w4, hw4⟩ : ∃ w4, w3.alloc (.map #[] 0) = w4 := ⟨_, rfl⟩
  rw [hw4] at m3 hown3 hmap0 hpb ⊢
  obtain ⟨pb, hpbe⟩ : ∃ pb, w2.heap.size = pb := ⟨_, rfl⟩
  rw [hpbe] at hpb hmap0 hsz02 ⊢
  have HB0 := hide hb0
  have HPB := hide hpb
  have HMap0 := hide hmap0
  clear hw3 hw4 hw0 hpbe hsz3 hmk hown m1 m2 m2' hb0 hpb hmap0
  clear w1 w2 w3
  go_loopw [5, 19] (fun sv iv wr => ∃ (j : Nat) (is : Bool) (p : PP) (seen : List Nat), j ≤ n ∧ iv = .int .i64 (j : Int) ∧ sv = .bool is ∧ Blk wr pb 25 (pcells p) ∧ IMap wr (pb + 1) .u64 (seenF seen) ∧ Hid (ifb ok (pfold l [] (pfirst ⟨#[]⟩)) = ifb is (pfold (l.drop j) seen p)) ∧ wr.ownsRow w0.heap.size 60 2 (.slice A n c) n (l.flatMap icells) ∧ Mod [] w0 wr) (fun _ iv _ => n - (intOf iv).toNat)
  case atStart => exact ⟨0, ok, _, _, by omega, rfl, rfl, HPB.out, HMap0.out, hide rfl, hown3, m3⟩
  case round =>
    clear HPB HMap0 hown3 m3
    obtain ⟨j, is, p, seen, hj, rfl, rfl, hpb, hmap, hrest, hown, hm⟩ := hrel
    by_cases h : j < n
    · have hjl : j < l.length := by rw [HN.out]; exact h
      obtain ⟨g, rfl, hgb, hgl, c0, c1⟩ := item_at hown j hjl
      have hyv := HVal.out l[j] (List.getElem_mem hjl)
      have hst := pfold_step hjl seen p
      obtain ⟨y, hy⟩ : ∃ y, l[j] = y := ⟨_, rfl⟩
      rw [hy] at c0 c1 hst hyv
      obtain ⟨V, hV⟩ : ∃ V : ByteArray, ⟨y.2.toArray⟩ = V := ⟨_, rfl⟩
      obtain ⟨id, hid⟩ : ∃ id, y.1 = id := ⟨_, rfl⟩
      have hyV : y.2 = V.data.toList := by rw [← hV]
      rw [hV, ] at c1
      rw [hid] at c0
      rw [hid, hyV] at hst hyv
      have hVs : V.size ≤ 65536 := hyv.1
      have hst2 : ifb ok (pfold l [] (pfirst ⟨#[]⟩)) = ifb (is && (!seen.contains id && (p.set id V.data.toList).2)) (pfold (l.drop (j + 1)) (id :: seen) (p.set id V.data.toList).1) := by
        rw [hrest.out]
        cases is
        · rfl
        · exact hst
      have HSt := hide hst2
      clear hst hst2 hrest hyv hV hyV hid hy hjl
      have hpb1 := hpb.alloc (.cells #[.int .u64 id, .string V] 60)
      have hmm : Mod [] wr (wr.alloc (.cells #[.int .u64 id, .string V] 60)) := (Mod.refl _ _).alloc _
      have hmap1 := hmap.mod hmm (by simp)
      have hown1 := hmm.own hown (by simp)
      have hm1 := hm.trans hmm (by simp)
      have hx : Blk (wr.alloc (.cells #[.int .u64 id, .string V] 60)) wr.heap.size 60 #[.int .u64 id, .string V] := Blk.new _ _ _
      have hmlt := hmap.lt
      have hw0s := hm.size
      clear hpb hmap hmm hown hm
      have hgm : g ≠ pb + 1 := by
        rintro rfl
        obtain ⟨es, cl, hbk, _⟩ := hmap1
        rcases hown1.2 with ⟨h0, _⟩ | ⟨g', cap, cur, hv, _, hg, _⟩
        · cases h0
        · cases hv
          rw [hg] at hbk; cases hbk
      have hgp : g ≠ pb := by
        rintro rfl
        rcases hown1.2 with ⟨h0, _⟩ | ⟨g', cap, cur, hv, _, hg, _⟩
        · cases h0
        · cases hv
          exact absurd rfl (Blk.ne_ (t := 60) hg hpb1 (by decide))
      have HGm := hide hgm
      have HGp := hide hgp
      have hxn : wr.heap.size ≠ pb + 1 := by omega
      have hxp : wr.heap.size ≠ pb := by omega
      have HXn := hide hxn
      have HXp := hide hxp
      obtain ⟨wA, hwA⟩ : ∃ wA, wr.alloc (.cells #[.int .u64 id, .string V] 60) = wA := ⟨_, rfl⟩
      clear hgm hgp hxn hxp
      have hlk := hmap1.lookup (P := Try.prog) Try.underlying58 Try.underlying23 (Try.zeroValue4 _) id
      rw [seenF_get] at hlk
      have HLk := hide hlk
      clear hlk
      have HX := hide hx
      have hsetc := set_any (wr.alloc (.cells #[.int .u64 id, .string V] 60)) pb p id V hpb1 (by omega)
      have HSet := hide hsetc
      clear hx hsetc
      cases is
      · have hmapA := hmap1
        have hpbA := hpb1
        have hownA := hown1
        have hmA := hm1
        clear hmap1 hpb1 hown1 hm1
        obtain ⟨w7, hrun, hmap2, m7, hs7⟩ := (hmapA).update (P := Try.prog) Try.underlying58 Try.underlying23 id (.bool true)
        rw [seenF_upd] at hmap2
        have hpb2 := m7.blk hpbA (by simp)
        have hown2 := m7.own hownA (fun k hk => by
          have h1 : k = g := by simpa [Value.ownBlock] using hk.symm
          have h2 : g ≠ pb + 1 := fun e => HGm.out e
          simp [h1, h2])
        have hm2 := hmA.trans m7 (by simp; omega)
        have HSt2 : Hid (ifb ok (pfold l [] (pfirst ⟨#[]⟩)) = ifb false (pfold (l.drop (j + 1)) (id :: seen) p)) := hide HSt.out
        have HM2 := hide hmap2
        have HB2 := hide hpb2
        have HO2 := hide hown2
        have c2 := HX.out.cell 0
        clear hmapA hpbA hownA hmap2 hpb2 hown2 HSet HSt HLk hwA wA
        go_wp2_with fail
        go_roundw
        case rel => exact ⟨j + 1, false, p, id :: seen, by omega, by go_num, rfl, HB2.out, HM2.out, HSt2, HO2.out, hm2⟩
        case measure => simp [intOf]; omega
      · cases hc : seen.contains id
        · rw [hc] at HLk HSt
          have HMap1 := hide hmap1
          have HOwn1 := hide hown1
          have c2 : (wr.alloc (.cells #[.int .u64 id, .string V] 60)).cell? ⟨wr.heap.size, 0, none⟩ = some (.int .u64 id) := HX.out.cell 0
          have c3 : (wr.alloc (.cells #[.int .u64 id, .string V] 60)).cell? ⟨wr.heap.size, 1, none⟩ = some (.string V) := HX.out.cell 1
          have hru := HLk.out
          have hwrs : wr.heap.size < (wr.alloc (.cells #[.int .u64 id, .string V] 60)).heap.size := by simp
          obtain ⟨r1, hr1⟩ : ∃ r, (p.set id V.data.toList).1 = r := ⟨_, rfl⟩
          obtain ⟨r2, hr2⟩ : ∃ r, (p.set id V.data.toList).2 = r := ⟨_, rfl⟩
          rw [hr1, hr2] at HSt
          have HR1 := hide hr1
          have HR2 := hide hr2
          clear hc hmap1 hown1 hpb1 hr1 hr2 hwA wA
          go_wp2_with fail
          refine HSet.out.mono ?_
          rintro e w5 ⟨rfl, hpb5, m5⟩
          rw [HR1.out] at hpb5
          rw [HR2.out]
          have hmapA := HMap1.out.mod m5 (by simp)
          have hpbA := hpb5
          have hownA := m5.own HOwn1.out (fun k hk => by
            have h1 : k = g := by simpa [Value.ownBlock] using hk.symm
            have h2 : g ≠ pb := fun e => HGp.out e
            simp [h1, h2])
          have hmA := hm1.trans m5 (by simp; omega)
          have hxA := m5.blk HX.out (by simpa using fun e => HXp.out e)
          obtain ⟨w7, hrun, hmap2, m7, hs7⟩ := (hmapA).update (P := Try.prog) Try.underlying58 Try.underlying23 id (.bool true)
          rw [seenF_upd] at hmap2
          have hpb2 := m7.blk hpbA (by simp)
          have hown2 := m7.own hownA (fun k hk => by
            have h1 : k = g := by simpa [Value.ownBlock] using hk.symm
            have h2 : g ≠ pb + 1 := fun e => HGm.out e
            simp [h1, h2])
          have hm2 := hmA.trans m7 (by simp; omega)
          have HM2 := hide hmap2
          have HB2 := hide hpb2
          have HO2 := hide hown2
          have HSt2 : Hid (ifb ok (pfold l [] (pfirst ⟨#[]⟩)) = ifb r2 (pfold (l.drop (j + 1)) (id :: seen) r1)) := hide HSt.out
          have c2 := hxA.cell 0
          clear hmapA hpbA hownA hmap2 hpb2 hown2 HSet HSt HLk HR1 HR2 hpb5 hxA c3
          clear hru
          go_wp2_with fail
          go_roundw
          case rel => exact ⟨j + 1, r2, r1, id :: seen, by omega, by go_num, rfl, HB2.out, HM2.out, HSt2, HO2.out, hm2⟩
          case measure => simp [intOf]; omega
        · rw [hc] at HLk HSt
          have hru := HLk.out
          have hmapA := hmap1
          have hpbA := hpb1
          have hownA := hown1
          have hmA := hm1
          clear hmap1 hpb1 hown1 hm1 hc
          obtain ⟨w7, hrun, hmap2, m7, hs7⟩ := (hmapA).update (P := Try.prog) Try.underlying58 Try.underlying23 id (.bool true)
          rw [seenF_upd] at hmap2
          have hpb2 := m7.blk hpbA (by simp)
          have hown2 := m7.own hownA (fun k hk => by
            have h1 : k = g := by simpa [Value.ownBlock] using hk.symm
            have h2 : g ≠ pb + 1 := fun e => HGm.out e
            simp [h1, h2])
          have hm2 := hmA.trans m7 (by simp; omega)
          have HSt2 : Hid (ifb ok (pfold l [] (pfirst ⟨#[]⟩)) = ifb false (pfold (l.drop (j + 1)) (id :: seen) p)) := hide HSt.out
          have HM2 := hide hmap2
          have HB2 := hide hpb2
          have HO2 := hide hown2
          have c2 := HX.out.cell 0
          clear hmapA hpbA hownA hmap2 hpb2 hown2 HSet HSt HLk hwA wA
          go_wp2_with fail
          go_roundw
          case rel => exact ⟨j + 1, false, p, id :: seen, by omega, by go_num, rfl, HB2.out, HM2.out, HSt2, HO2.out, hm2⟩
          case measure => simp [intOf]; omega
    · have hjn : j = n := by omega
      subst hjn
      have hfin : pread x.data.toList = ifb is (if may p then some p else none) := by
        rw [HRes.out]
        unfold pall
        have h1 := hrest.out
        rw [List.drop_of_length_le (by rw [HN.out]; exact Nat.le_refl _)] at h1
        cases ok
        · cases is
          · rfl
          · simp [ifb, pfold] at h1
        · simp only [ifb, if_true] at h1 ⊢
          rw [h1]
          cases is <;> rfl
      have HF := hide hfin
      have hbr := hm.blk HB0.out (by simp)
      have hrl := hbr.lt
      have q0 : wr.cell? ⟨pb, 0, none⟩ = some (.int .u64 (p.N 1 : Nat)) := hpb.cell 0
      have q1 : wr.cell? ⟨pb, 1, none⟩ = some (.int .u64 (p.N 3 : Nat)) := hpb.cell 1
      have q2 : wr.cell? ⟨pb, 2, none⟩ = some (.int .u64 (p.N 4 : Nat)) := hpb.cell 2
      have q3 : wr.cell? ⟨pb, 3, none⟩ = some (.int .u64 (p.N 5 : Nat)) := hpb.cell 3
      have q4 : wr.cell? ⟨pb, 4, none⟩ = some (.int .u64 (p.N 6 : Nat)) := hpb.cell 4
      have q5 : wr.cell? ⟨pb, 5, none⟩ = some (.int .u64 (p.N 7 : Nat)) := hpb.cell 5
      have q6 : wr.cell? ⟨pb, 6, none⟩ = some (.int .u64 (p.N 8 : Nat)) := hpb.cell 6
      have q7 : wr.cell? ⟨pb, 7, none⟩ = some (.int .u64 (p.N 9 : Nat)) := hpb.cell 7
      have q8 : wr.cell? ⟨pb, 8, none⟩ = some (.int .u64 (p.N 10 : Nat)) := hpb.cell 8
      have q9 : wr.cell? ⟨pb, 9, none⟩ = some (.int .u64 (p.N 11 : Nat)) := hpb.cell 9
      have q10 : wr.cell? ⟨pb, 10, none⟩ = some (.int .u64 (p.N 14 : Nat)) := hpb.cell 10
      have q11 : wr.cell? ⟨pb, 11, none⟩ = some (.bool p.mig) := hpb.cell 11
      have q12 : wr.cell? ⟨pb, 12, none⟩ = some (.string p.src) := hpb.cell 12
      have HBR := hide hbr
      clear hfin hrest hown hmap hbr
      cases is
      · clear q0 q1 q2 q3 q4 q5 q6 q7 q8 q9 q10 q11 q12
        have r0 : wr.frozen? ⟨w.heap.size, 0, none⟩ = false := HBR.out.frozen 0
        have r1 : wr.frozen? ⟨w.heap.size, 1, none⟩ = false := HBR.out.frozen 1
        have r2 : wr.frozen? ⟨w.heap.size, 2, none⟩ = false := HBR.out.frozen 2
        have r3 : wr.frozen? ⟨w.heap.size, 3, none⟩ = false := HBR.out.frozen 3
        have r4 : wr.frozen? ⟨w.heap.size, 4, none⟩ = false := HBR.out.frozen 4
        have r5 : wr.frozen? ⟨w.heap.size, 5, none⟩ = false := HBR.out.frozen 5
        have r6 : wr.frozen? ⟨w.heap.size, 6, none⟩ = false := HBR.out.frozen 6
        have r7 : wr.frozen? ⟨w.heap.size, 7, none⟩ = false := HBR.out.frozen 7
        have r8 : wr.frozen? ⟨w.heap.size, 8, none⟩ = false := HBR.out.frozen 8
        have r9 : wr.frozen? ⟨w.heap.size, 9, none⟩ = false := HBR.out.frozen 9
        have r10 : wr.frozen? ⟨w.heap.size, 10, none⟩ = false := HBR.out.frozen 10
        have r11 : wr.frozen? ⟨w.heap.size, 11, none⟩ = false := HBR.out.frozen 11
        have r12 : wr.frozen? ⟨w.heap.size, 12, none⟩ = false := HBR.out.frozen 12
        have z0 : wr.cell? ⟨w.heap.size, 0, none⟩ = some (.int .u64 0) := HBR.out.cell 0
        have z1 : wr.cell? ⟨w.heap.size, 1, none⟩ = some (.int .u64 0) := HBR.out.cell 1
        have z2 : wr.cell? ⟨w.heap.size, 2, none⟩ = some (.int .u64 0) := HBR.out.cell 2
        have z3 : wr.cell? ⟨w.heap.size, 3, none⟩ = some (.int .u64 0) := HBR.out.cell 3
        have z4 : wr.cell? ⟨w.heap.size, 4, none⟩ = some (.int .u64 0) := HBR.out.cell 4
        have z5 : wr.cell? ⟨w.heap.size, 5, none⟩ = some (.int .u64 0) := HBR.out.cell 5
        have z6 : wr.cell? ⟨w.heap.size, 6, none⟩ = some (.int .u64 0) := HBR.out.cell 6
        have z7 : wr.cell? ⟨w.heap.size, 7, none⟩ = some (.int .u64 0) := HBR.out.cell 7
        have z8 : wr.cell? ⟨w.heap.size, 8, none⟩ = some (.int .u64 0) := HBR.out.cell 8
        have z9 : wr.cell? ⟨w.heap.size, 9, none⟩ = some (.int .u64 0) := HBR.out.cell 9
        have z10 : wr.cell? ⟨w.heap.size, 10, none⟩ = some (.int .u64 0) := HBR.out.cell 10
        have z11 : wr.cell? ⟨w.heap.size, 11, none⟩ = some (.bool false) := HBR.out.cell 11
        have z12 : wr.cell? ⟨w.heap.size, 12, none⟩ = some (.string ⟨#[]⟩) := HBR.out.cell 12
        go_wp2_with fail
        have hb9 := HBR.out.sets (fun i => (pcells pzero).getD i undef) (List.range 13)
        rw [sets_eq _ _ 13 rfl rfl] at hb9
        exact bodyPost_ret (results_cell_tmp_row rfl _ _ w.heap.size 25 (pcells pzero) _ rfl hb9 Try.underlying25 rfl (by kernel_rfl)) rfl (ReadPost.none_ HF.out ((m0.trans hm (by simp)).sets (.inr (Nat.le_refl _)) (fun i => (pcells pzero).getD i undef) (List.range 13)) rfl)
      · go_wp2_with fail
        refine (may_any _ p).mono ?_
        rintro e w8 ⟨rfl, m8⟩
        replace hm := hm.trans m8 (by simp)
        replace hpb := m8.blk hpb (by simp)
        replace hbr := m8.blk HBR.out (by simp)
        clear HBR q0 q1 q2 q3 q4 q5 q6 q7 q8 q9 q10 q11 q12
        have HBR := hide hbr
        replace hrl := hbr.lt
        clear hbr
        cases hmy : may p
        · rw [hmy] at HF
          clear hpb hmy
          have r0 : w8.frozen? ⟨w.heap.size, 0, none⟩ = false := HBR.out.frozen 0
          have r1 : w8.frozen? ⟨w.heap.size, 1, none⟩ = false := HBR.out.frozen 1
          have r2 : w8.frozen? ⟨w.heap.size, 2, none⟩ = false := HBR.out.frozen 2
          have r3 : w8.frozen? ⟨w.heap.size, 3, none⟩ = false := HBR.out.frozen 3
          have r4 : w8.frozen? ⟨w.heap.size, 4, none⟩ = false := HBR.out.frozen 4
          have r5 : w8.frozen? ⟨w.heap.size, 5, none⟩ = false := HBR.out.frozen 5
          have r6 : w8.frozen? ⟨w.heap.size, 6, none⟩ = false := HBR.out.frozen 6
          have r7 : w8.frozen? ⟨w.heap.size, 7, none⟩ = false := HBR.out.frozen 7
          have r8 : w8.frozen? ⟨w.heap.size, 8, none⟩ = false := HBR.out.frozen 8
          have r9 : w8.frozen? ⟨w.heap.size, 9, none⟩ = false := HBR.out.frozen 9
          have r10 : w8.frozen? ⟨w.heap.size, 10, none⟩ = false := HBR.out.frozen 10
          have r11 : w8.frozen? ⟨w.heap.size, 11, none⟩ = false := HBR.out.frozen 11
          have r12 : w8.frozen? ⟨w.heap.size, 12, none⟩ = false := HBR.out.frozen 12
          have z0 : w8.cell? ⟨w.heap.size, 0, none⟩ = some (.int .u64 0) := HBR.out.cell 0
          have z1 : w8.cell? ⟨w.heap.size, 1, none⟩ = some (.int .u64 0) := HBR.out.cell 1
          have z2 : w8.cell? ⟨w.heap.size, 2, none⟩ = some (.int .u64 0) := HBR.out.cell 2
          have z3 : w8.cell? ⟨w.heap.size, 3, none⟩ = some (.int .u64 0) := HBR.out.cell 3
          have z4 : w8.cell? ⟨w.heap.size, 4, none⟩ = some (.int .u64 0) := HBR.out.cell 4
          have z5 : w8.cell? ⟨w.heap.size, 5, none⟩ = some (.int .u64 0) := HBR.out.cell 5
          have z6 : w8.cell? ⟨w.heap.size, 6, none⟩ = some (.int .u64 0) := HBR.out.cell 6
          have z7 : w8.cell? ⟨w.heap.size, 7, none⟩ = some (.int .u64 0) := HBR.out.cell 7
          have z8 : w8.cell? ⟨w.heap.size, 8, none⟩ = some (.int .u64 0) := HBR.out.cell 8
          have z9 : w8.cell? ⟨w.heap.size, 9, none⟩ = some (.int .u64 0) := HBR.out.cell 9
          have z10 : w8.cell? ⟨w.heap.size, 10, none⟩ = some (.int .u64 0) := HBR.out.cell 10
          have z11 : w8.cell? ⟨w.heap.size, 11, none⟩ = some (.bool false) := HBR.out.cell 11
          have z12 : w8.cell? ⟨w.heap.size, 12, none⟩ = some (.string ⟨#[]⟩) := HBR.out.cell 12
          go_wp2_with fail
          have hb9 := HBR.out.sets (fun i => (pcells pzero).getD i undef) (List.range 13)
          rw [sets_eq _ _ 13 rfl rfl] at hb9
          exact bodyPost_ret (results_cell_tmp_row rfl _ _ w.heap.size 25 (pcells pzero) _ rfl hb9 Try.underlying25 rfl (by kernel_rfl)) rfl (ReadPost.none_ HF.out ((m0.trans hm (by simp)).sets (.inr (Nat.le_refl _)) (fun i => (pcells pzero).getD i undef) (List.range 13)) rfl)
        · rw [hmy] at HF
          clear hmy
          have r0 : w8.frozen? ⟨w.heap.size, 0, none⟩ = false := HBR.out.frozen 0
          have r1 : w8.frozen? ⟨w.heap.size, 1, none⟩ = false := HBR.out.frozen 1
          have r2 : w8.frozen? ⟨w.heap.size, 2, none⟩ = false := HBR.out.frozen 2
          have r3 : w8.frozen? ⟨w.heap.size, 3, none⟩ = false := HBR.out.frozen 3
          have r4 : w8.frozen? ⟨w.heap.size, 4, none⟩ = false := HBR.out.frozen 4
          have r5 : w8.frozen? ⟨w.heap.size, 5, none⟩ = false := HBR.out.frozen 5
          have r6 : w8.frozen? ⟨w.heap.size, 6, none⟩ = false := HBR.out.frozen 6
          have r7 : w8.frozen? ⟨w.heap.size, 7, none⟩ = false := HBR.out.frozen 7
          have r8 : w8.frozen? ⟨w.heap.size, 8, none⟩ = false := HBR.out.frozen 8
          have r9 : w8.frozen? ⟨w.heap.size, 9, none⟩ = false := HBR.out.frozen 9
          have r10 : w8.frozen? ⟨w.heap.size, 10, none⟩ = false := HBR.out.frozen 10
          have r11 : w8.frozen? ⟨w.heap.size, 11, none⟩ = false := HBR.out.frozen 11
          have r12 : w8.frozen? ⟨w.heap.size, 12, none⟩ = false := HBR.out.frozen 12
          have z0 : w8.cell? ⟨w.heap.size, 0, none⟩ = some (.int .u64 0) := HBR.out.cell 0
          have z1 : w8.cell? ⟨w.heap.size, 1, none⟩ = some (.int .u64 0) := HBR.out.cell 1
          have z2 : w8.cell? ⟨w.heap.size, 2, none⟩ = some (.int .u64 0) := HBR.out.cell 2
          have z3 : w8.cell? ⟨w.heap.size, 3, none⟩ = some (.int .u64 0) := HBR.out.cell 3
          have z4 : w8.cell? ⟨w.heap.size, 4, none⟩ = some (.int .u64 0) := HBR.out.cell 4
          have z5 : w8.cell? ⟨w.heap.size, 5, none⟩ = some (.int .u64 0) := HBR.out.cell 5
          have z6 : w8.cell? ⟨w.heap.size, 6, none⟩ = some (.int .u64 0) := HBR.out.cell 6
          have z7 : w8.cell? ⟨w.heap.size, 7, none⟩ = some (.int .u64 0) := HBR.out.cell 7
          have z8 : w8.cell? ⟨w.heap.size, 8, none⟩ = some (.int .u64 0) := HBR.out.cell 8
          have z9 : w8.cell? ⟨w.heap.size, 9, none⟩ = some (.int .u64 0) := HBR.out.cell 9
          have z10 : w8.cell? ⟨w.heap.size, 10, none⟩ = some (.int .u64 0) := HBR.out.cell 10
          have z11 : w8.cell? ⟨w.heap.size, 11, none⟩ = some (.bool false) := HBR.out.cell 11
          have z12 : w8.cell? ⟨w.heap.size, 12, none⟩ = some (.string ⟨#[]⟩) := HBR.out.cell 12
          have q0 : w8.cell? ⟨pb, 0, none⟩ = some (.int .u64 (p.N 1 : Nat)) := hpb.cell 0
          have q1 : w8.cell? ⟨pb, 1, none⟩ = some (.int .u64 (p.N 3 : Nat)) := hpb.cell 1
          have q2 : w8.cell? ⟨pb, 2, none⟩ = some (.int .u64 (p.N 4 : Nat)) := hpb.cell 2
          have q3 : w8.cell? ⟨pb, 3, none⟩ = some (.int .u64 (p.N 5 : Nat)) := hpb.cell 3
          have q4 : w8.cell? ⟨pb, 4, none⟩ = some (.int .u64 (p.N 6 : Nat)) := hpb.cell 4
          have q5 : w8.cell? ⟨pb, 5, none⟩ = some (.int .u64 (p.N 7 : Nat)) := hpb.cell 5
          have q6 : w8.cell? ⟨pb, 6, none⟩ = some (.int .u64 (p.N 8 : Nat)) := hpb.cell 6
          have q7 : w8.cell? ⟨pb, 7, none⟩ = some (.int .u64 (p.N 9 : Nat)) := hpb.cell 7
          have q8 : w8.cell? ⟨pb, 8, none⟩ = some (.int .u64 (p.N 10 : Nat)) := hpb.cell 8
          have q9 : w8.cell? ⟨pb, 9, none⟩ = some (.int .u64 (p.N 11 : Nat)) := hpb.cell 9
          have q10 : w8.cell? ⟨pb, 10, none⟩ = some (.int .u64 (p.N 14 : Nat)) := hpb.cell 10
          have q11 : w8.cell? ⟨pb, 11, none⟩ = some (.bool p.mig) := hpb.cell 11
          have q12 : w8.cell? ⟨pb, 12, none⟩ = some (.string p.src) := hpb.cell 12
          clear hpb
          go_wp2_with fail
          have hb9 := HBR.out.sets (fun i => (pcells p).getD i undef) (List.range 13)
          rw [sets_eq _ _ 13 rfl rfl] at hb9
          exact bodyPost_ret (results_cell_tmp_row rfl _ _ w.heap.size 25 (pcells p) _ rfl hb9 Try.underlying25 rfl (by kernel_rfl)) rfl (ReadPost.some_ HF.out ((m0.trans hm (by simp)).sets (.inr (Nat.le_refl _)) (fun i => (pcells p).getD i undef) (List.range 13)) rfl)
end Go.Proofs.Ytampdiplodhkbaa
