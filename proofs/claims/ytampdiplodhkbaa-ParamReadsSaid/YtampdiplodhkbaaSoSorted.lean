/-
  slices.Sorted(maps.Keys(m)) at a map keyed by uint64.
-/
import Derived.Test.YtampdiplodhkbaaSoKeys
namespace Go.Proofs.Ytampdiplodhkbaa
open Go.RowKit Go.Sort Go.Shelf

attribute [local go_sem] Oper.semAt_some

theorem info_u64 : (Try.prog.info? 23).map (fun i => (i.zero, i.size, i.bytes)) = some (some (.int .u64 0), 1, 8) := by kernel_rfl

set_option maxRecDepth 100000 in
set_option maxHeartbeats 2000000 in
/-- slices.AppendSeq(nil, seq): what the iterator gives, in its order. -/
theorem appendSeq_u64 (F : Fence) (n : Nat) (hf : F.fn 49) (hro : F.round = none) (hn : 2 ≤ n) (gf : Nat) (lb : Array Value) (hFg : F.fn gf) (eg : ∀ args w, (callFunc gf args).run Try.prog w = .ok (.enter gf args) w)
    (S : List Int → Prop) (N : Nat) (hN : N ≤ 65536) (w : World) (hseq : SeqStopsK F (n - 1) Try.prog gf lb (fun x : Int => #[Value.int .u64 x]) KeepsWalks S (fun _ => True) N w) :
    CallsIn F n Try.prog 49 #[.slice none 0 0, .func (.func gf) #[] lb] w fun e w' => ∃ (v : Value) (ss : List Int), e = .returned v ∧ S ss ∧
      w'.ownsRow w.heap.size 23 1 v ss.length (ss.map U) ∧ (v = .slice none 0 0 ↔ ss = []) ∧ Go.RowKit.Below w.heap.size w w' := by
  have h1 : 1 ≤ n := by omega
  obtain ⟨i0, hi, hz0, hz1, hz2⟩ := info_parts info_u64
  refine callsIn_of_wp_marks Try.func49 rfl hf ?_ hro
  simp only [Try.ntmps49, List.size_toArray, List.length_cons, List.length_nil, Nat.reduceAdd, Nat.reduceSub, Array.replicate_succ, Array.replicate_zero, List.push_toArray, List.append_toArray, List.nil_append, List.cons_append]
  gi_wp2
  have bO := Boxed.new w 29 (.slice none 0 0)
  have hB0 : Go.RowKit.Below w.heap.size w (w.alloc (.cells #[.slice none 0 0] 29)) := (Go.RowKit.Below.refl _ w).alloc (Nat.le_refl _) _
  refine wpIn_rangeFunc_ownG hro h1 (gf := gf) (lb := lb) rfl hFg eg hseq walksK_t walksK_b hB0 (fun _ => rfl)
    (fun pre W => (∃ v, Boxed W w.heap.size 29 v ∧ W.ownsRow w.heap.size 23 1 v pre.length (pre.map U) ∧ (v = .slice none 0 0 ↔ pre = [])) ∧ Go.RowKit.Below w.heap.size w W)
    (fun _ _ _ => False)
    (OwnFrom.and (Own.from (holdsRow_own w.heap.size w.heap.size 29 23 1 (fun pre : List Int => pre.length) (fun pre => pre.map U) (fun pre v => v = .slice none 0 0 ↔ pre = [])) _) (ownFrom_below (Nat.le_refl _) (by simp)))
    (fun _ _ _ _ _ hs _ _ => hs)
    ⟨⟨_, bO, World.ownsRow_nil _ _ _ _, by simp⟩, hB0⟩
    (fun x => { tmps := #[.slice none 0 0, .func (.func gf) #[] lb, .pointer (some ⟨w.heap.size, 0, none⟩), undef, .slice none 0 0, .int .u64 x, .func (.func gf) #[] lb, .int .u64 x, undef, undef, undef, undef, undef], defers := [] }) ?assign ?body ?done ?stop
  case assign =>
    intro l x W K hK
    gi_wp2
    exact hK
  case body =>
    rintro l pre x W ⟨⟨v, hv, hrow, hnil⟩, hB⟩ hlt
    have hc := hv.cell
    gi_wp2_with (gi_at_builtin; refine wpListIn_append_own _ rfl _ _ 29 rfl w.heap.size 23 i0 (.int .u64 0) 1 8 Try.underlying29 hi hz0 hz1 hz2 rfl (by decide) _ _ _ rfl (hrow.alloc _) ⟨W.heap.size, 0, none⟩ 1 1 [.int .u64 x] rfl rfl (cell_one_new _ _ _) (by simp [Value.oneCell']) (by unfold maxLen; omega) (by omega) (by have := hB.size; simp; omega) ?_; intro v' w1 hown' hgrow _; obtain ⟨g', cap', rfl⟩ := ownsRow_succ hown'; obtain ⟨hv1, hv2, hr2, hk2, hb2⟩ := hv.appended (by decide) hrow hB.size (Nat.le_refl _) hown' hgrow; have hc1 := hv1.cell; have hf1 := hv1.frozen)
    exact ⟨hk2.from _, hk2.walks, ⟨_, hv2, by simpa [U] using hr2, by simp⟩, hB.trans hb2⟩
  case done =>
    rintro D ys W hD hS ⟨⟨v, hv, hrow, hnil⟩, hB⟩ hK
    have hc := hv.cell
    gi_wp2
    refine ⟨by simp, .inl ⟨_, _, rfl, run_takeDeferred hK, ?_⟩⟩
    exact ⟨_, results_tmp rfl _ _ _, v, ys, rfl, hS, ownsRow_putObj hrow _ hK rfl, hnil, hB.trans (belowK_b (w := w) (Nat.le_refl _) W D _ _ (by simp at hD; omega) hK rfl rfl)⟩
  case stop =>
    rintro D c pre W _ _ h _
    exact h.elim

set_option maxHeartbeats 1000000 in
theorem collect_u64 (F : Fence) (n : Nat) (hf : F.fn 40) (hf2 : F.fn 49) (hro : F.round = none) (hn : 3 ≤ n) (gf : Nat) (lb : Array Value) (hFg : F.fn gf) (eg : ∀ args w, (callFunc gf args).run Try.prog w = .ok (.enter gf args) w)
    (S : List Int → Prop) (N : Nat) (hN : N ≤ 65536) (w : World) (hseq : SeqStopsK F (n - 1 - 1) Try.prog gf lb (fun x : Int => #[Value.int .u64 x]) KeepsWalks S (fun _ => True) N w) :
    CallsIn F n Try.prog 40 #[.func (.func gf) #[] lb] w fun e w' => ∃ (v : Value) (ss : List Int), e = .returned v ∧ S ss ∧
      w'.ownsRow w.heap.size 23 1 v ss.length (ss.map U) ∧ (v = .slice none 0 0 ↔ ss = []) ∧ Go.RowKit.Below w.heap.size w w' := by
  have h1 : 1 ≤ n := by omega
  refine callsIn_of_wp Try.func40 rfl hf ?_ hro
  simp only [Try.ntmps40, List.size_toArray, List.length_cons, List.length_nil, Nat.reduceAdd, Nat.reduceSub, Array.replicate_succ, Array.replicate_zero, List.push_toArray, List.append_toArray, List.nil_append, List.cons_append]
  gi_wp2_with (gi_at_call 49; refine (appendSeq_u64 F (n - 1) hf2 hro (by omega) gf lb hFg eg S N hN _ hseq).mono ?_; rintro e w' ⟨v, ss, rfl, hS, hrow, hnil, hb⟩)
  go_ret
  exact ⟨v, ss, rfl, hS, hrow, hnil, hb⟩

theorem own_row {w : World} {base g n cap : Nat} {ss : List Int} (h : w.ownsRow base 23 1 (.slice (some ⟨g, 0, none⟩) n cap) n (ss.map U)) :
    ∃ R, Row w g ss.toArray R ∧ base ≤ g ∧ n ≤ cap ∧ cap ≤ maxLen ∧ (ss ++ R.map fun _ => 0).length = cap ∧ ss.length = n := by
  have hl : ss.length = n := by have := h.1; simpa using this
  rcases h.2 with ⟨h0, _⟩ | ⟨g', cap', cur, hv, hb, hg, h1, h2, h3, h4⟩
  · cases h0
  · cases hv
    simp only [Nat.mul_one] at h3 h4
    have he : cur.toList = ss.map U ++ cur.toList.drop n := by rw [← h4]; exact (List.take_append_drop n cur.toList).symm
    refine ⟨cur.toList.drop n, ?_, hb, h1, h2, ?_, hl⟩
    · have : cur = (ss.toArray.toList.map U ++ cur.toList.drop n).toArray := by
        apply Array.ext'
        simpa using he
      exact (congrArg (fun c => w.heap[g]? = some (.cells c 23 (0, 0))) this).mp hg
    · simp; omega
theorem row_own {w : World} {base g n cap : Nat} {d : Array Int} {R : List Value} (h : Row w g d R) (hb : base ≤ g) (hd : d.size = n) (h1 : n ≤ cap) (h2 : cap ≤ maxLen) (h3 : n + R.length = cap) :
    w.ownsRow base 23 1 (.slice (some ⟨g, 0, none⟩) n cap) n (d.toList.map U) := by
  refine ⟨by simp [hd], .inr ⟨g, cap, _, rfl, hb, h, h1, h2, by simp; omega, ?_⟩⟩
  simp only [Nat.mul_one]
  rw [List.take_left' (by simp [hd])]

theorem sorted_lt {ss : List Int} {d : Array Int} {n : Nat} (hn : ss.length = n) (hnd : ss.Nodup) (hp : PermIn 0 n ss.toArray d) (hs : SortedIn ltInt 0 n d) : d.toList.Perm ss ∧ d.toList.Pairwise (· < ·) := by
  have hsz : d.size = n := by rw [hp.1]; simpa using hn
  have e1 : (d.extract 0 n).toList = d.toList := by rw [← hsz]; simp
  have e2 : (ss.toArray.extract 0 n).toList = ss := by rw [← hn]; simp
  have hperm : d.toList.Perm ss := by have := hp.2.2; rw [e1, e2] at this; exact this
  refine ⟨hperm, ?_⟩
  have hnd' : d.toList.Nodup := hperm.nodup_iff.2 hnd
  rw [List.pairwise_iff_getElem]
  intro i j hi hj hij
  have hi' : i < d.size := by simpa using hi
  have hj' : j < d.size := by simpa using hj
  have h1 := hs i j (Nat.zero_le _) hij (by omega)
  have h2 : d.toList[i] ≠ d.toList[j] := List.pairwise_iff_getElem.1 hnd' i j hi hj hij
  simp only [ltInt, decide_eq_false_iff_not] at h1
  rw [getElem!_pos d j hj', getElem!_pos d i hi'] at h1
  simp only [Array.getElem_toList] at h2 ⊢
  omega
theorem KeysOf.perm {f : Int → Option Value} {ss ts : List Int} (h : KeysOf f ss) (hp : ts.Perm ss) : KeysOf f ts := ⟨hp.nodup_iff.2 h.1, fun x => by rw [hp.mem_iff]; exact h.2 x⟩

set_option maxHeartbeats 1000000 in
theorem insertion_nil (w : World) :
    Calls Try.prog 55 #[.slice none 0 0, .int .i64 0, .int .i64 0] w fun e w' => e = .returned (.tuple #[]) ∧ w' = w := by
  go_enter Try.func55, Try.ntmps55
  go_wp2_with fail
  go_loopw [6] (fun v wr => v = .int .i64 1 ∧ wr = w) (fun _ _ => 0)
  case atStart => exact ⟨by simp, rfl⟩
  case round =>
    obtain ⟨rfl, rfl⟩ := hrel
    go_wp2_with fail
    go_end0
    exact ⟨rfl, rfl⟩
set_option maxHeartbeats 1000000 in
theorem pdq_nil (w : World) (lim : Int) :
    Calls Try.prog 50 #[.slice none 0 0, .int .i64 0, .int .i64 0, .int .i64 lim] w fun e w' => e = .returned (.tuple #[]) ∧ w' = w := by
  go_enter Try.func50, Try.ntmps50
  go_wp2_with fail
  go_loopw [1, 2] (fun x y wr => x = .int .i64 0 ∧ y = .int .i64 0 ∧ wr = w) (fun _ _ _ => 0)
  case atStart => exact ⟨rfl, rfl, rfl⟩
  case round =>
    obtain ⟨rfl, rfl, rfl⟩ := hrel
    go_wp2_with fail
    refine (insertion_nil _).mono ?_
    rintro e w' ⟨rfl, rfl⟩
    go_wp2_with fail
    refine bodyPost_ret (results_none rfl _ _ _) rfl ?_
    exact ⟨rfl, rfl⟩
set_option maxHeartbeats 1000000 in
theorem sort_nil (w : World) :
    Calls Try.prog 41 #[.slice none 0 0] w fun e w' => e = .returned (.tuple #[]) ∧ w' = w := by
  go_enter Try.func41, Try.ntmps41
  go_wp2_with fail
  refine (len_u64 w 0 (by omega)).mono ?_
  rintro e w' ⟨rfl, rfl⟩
  go_wp2_with fail
  refine (pdq_nil w' _).mono ?_
  rintro e w2 ⟨rfl, rfl⟩
  go_wp2_with fail
  go_end0
  exact ⟨rfl, rfl⟩

set_option maxHeartbeats 2000000 in
/-- slices.Sorted of what maps.Keys hands back: a new slice of the keys, each once, ascending. -/
theorem sorted_u64 (w : World) (Bm b : Nat) (f : Int → Option Value) (hBm : Bm < w.heap.size) (hc : w.cell? ⟨Bm, 0, none⟩ = some (.map (some b))) (hown : IMap w b .u64 f) (K : List Int) (hK : ∀ x, (f x).isSome = true → x ∈ K) (hKN : K.length < 65536) :
    Calls Try.prog 30 #[.func (.func 42) #[] #[.pointer (some ⟨Bm, 0, none⟩)]] w fun e w' => ∃ (v : Value) (ss : List Int), e = .returned v ∧ KeysOf f ss ∧ ss.Pairwise (· < ·) ∧
      w'.ownsRow w.heap.size 23 1 v ss.length (ss.map U) ∧ Mod [] w w' := by
  have hcol : Calls Try.prog 40 _ w _ := callsIn_wide.1 (collect_u64 Fence.wide 5 trivial trivial rfl (by omega) 42 #[.pointer (some ⟨Bm, 0, none⟩)] trivial (enters_of Try.func42 (by kernel_rfl) rfl) _ 65535 (by omega) w
    (keys_stops Fence.wide _ trivial rfl (by omega) Bm b 65535 f w hBm hc hown K hK (by omega)))
  have Hcol := hide hcol
  have HK := hide hK
  clear hcol hown hK
  go_enter Try.func30, Try.ntmps30
  go_wp2_with fail
  refine Hcol.out.mono ?_
  rintro e w1 ⟨v, ss, rfl, hS, hrow, hnil, hb⟩
  have hm1 : Mod [] w w1 := Mod.of_below hb
  rcases hrow.2 with ⟨rfl, hz⟩ | ⟨g, cap, cur, rfl, hbase, hgb, r1, r2, r3, r4⟩
  · have hss : ss = [] := List.eq_nil_of_length_eq_zero hz
    subst hss
    go_wp2_with fail
    refine (sort_nil _).mono ?_
    rintro e w2 ⟨rfl, rfl⟩
    go_wp2_with fail
    go_ret
    exact ⟨_, [], rfl, hS, List.Pairwise.nil, hrow, hm1⟩
  · obtain ⟨R, hr, _, h1, h2, h3, hl⟩ := own_row hrow
    have hlen : ss.length < 65536 := by have := nodup_le ss K hS.1 (fun x hx => HK.out x ((hS.2 x).1 hx)); omega
    have hsz : ss.toArray.size = ss.length := by simp
    clear hrow hgb r1 r2 r3 r4 hnil
    go_wp2_with fail
    refine (sort_u64 w1 g cap ss.toArray R hr (by rw [hsz]; exact hlen) ss.length hsz).mono ?_
    rintro e w2 ⟨rfl, d', hp, hs, hr2, hm2⟩
    obtain ⟨k1, k2⟩ := sorted_lt rfl hS.1 hp hs
    have hd : d'.size = ss.length := by rw [hp.1]; exact hsz
    have hown := row_own (n := ss.length) (cap := cap) hr2 hbase hd h1 h2 (by simpa using h3)
    have hdl : d'.toList.length = ss.length := by simpa using hd
    have hown' : w2.ownsRow w.heap.size 23 1 (.slice (some ⟨g, 0, none⟩) ss.length cap) d'.toList.length (d'.toList.map U) := by rw [hdl]; exact hown
    go_wp2_with fail
    go_ret
    exact ⟨_, d'.toList, rfl, hS.perm k1, k2, hown', hm1.trans hm2 (by simpa using hbase)⟩
end Go.Proofs.Ytampdiplodhkbaa
