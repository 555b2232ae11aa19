/-
  inbox: lay.
-/
import Derived.Test.YtfbcbddfmiiilaaIbRead
namespace Go.Proofs.Ytfbcbddfmiiilaa
open Go.RowKit

/-- C, and what D has laid from a up to c -/
def mix (C : Nat → Option UInt8) (a : Nat) (D : List UInt8) (c n : Nat) : Option UInt8 := (C n).or (if a ≤ n ∧ n < c then D[n - a]? else none)

theorem mix_start (C : Nat → Option UInt8) (a : Nat) (D : List UInt8) (n : Nat) : mix C a D a n = C n := by
  unfold mix
  rw [if_neg (by omega), Option.or_none]
theorem mix_none {C : Nat → Option UInt8} {a : Nat} {D : List UInt8} {c n : Nat} (h : C n = none) (hc : c ≤ n) : mix C a D c n = none := by
  unfold mix
  rw [if_neg (by omega), h]; rfl
/-- laid further, over what was there -/
theorem mix_over {C : Nat → Option UInt8} {a : Nat} {D : List UInt8} {c c' : Nat} (hc : c ≤ c') (h : ∀ n, c ≤ n → n < c' → (C n).isSome = true) (n : Nat) : mix C a D c' n = mix C a D c n := by
  unfold mix
  cases hC : C n with
  | some x => rfl
  | none =>
    have : ¬ (c ≤ n ∧ n < c') := fun hh => by have := h n hh.1 hh.2; rw [hC] at this; cases this
    by_cases h1 : a ≤ n ∧ n < c
    · rw [if_pos h1, if_pos ⟨h1.1, by omega⟩]
    · rw [if_neg h1, if_neg (by omega)]
/-- laid further, where nothing was -/
theorem mix_more {C : Nat → Option UInt8} {a : Nat} {D : List UInt8} {c : Nat} {s : List UInt8} (hac : a ≤ c) (hfree : ∀ i, i < s.length → C (c + i) = none) (hs : s = (D.drop (c - a)).take s.length) (n : Nat) :
    mix C a D (c + s.length) n = if c ≤ n ∧ n < c + s.length then s[n - c]? else mix C a D c n := by
  by_cases h1 : c ≤ n ∧ n < c + s.length
  · rw [if_pos h1]
    have h2 := hfree (n - c) (by omega)
    rw [show c + (n - c) = n by omega] at h2
    unfold mix
    rw [h2, Option.none_or, if_pos ⟨by omega, h1.2⟩, hs, List.getElem?_take, if_pos (by omega), List.getElem?_drop]
    congr 1
    omega
  · rw [if_neg h1]
    unfold mix
    congr 1
    by_cases h3 : a ≤ n ∧ n < c
    · rw [if_pos h3, if_pos ⟨h3.1, by omega⟩]
    · rw [if_neg h3, if_neg (by omega)]
theorem mix_end {C : Nat → Option UInt8} {a : Nat} {D : List UInt8} {c : Nat} (hc : a + D.length ≤ c) (n : Nat) : mix C a D c n = over C a D n := by
  unfold mix over
  congr 1
  by_cases h1 : a ≤ n
  · by_cases h2 : n < c
    · rw [if_pos ⟨h1, h2⟩, if_pos h1]
    · rw [if_neg (by omega), if_pos h1, List.getElem?_eq_none (by omega)]
  · rw [if_neg (by omega), if_neg h1]

theorem urow_form {w : World} {base n : Nat} {v : Value} {ss : List Int} (h : w.ownsRow base 27 1 v n (ss.map U)) :
    ∃ A cap, v = .slice A n cap ∧ n ≤ cap ∧ cap ≤ 9223372036854775807 ∧ ss.length = n ∧ ∀ j (hj : j < ss.length), ∃ g, A = some ⟨g, 0, none⟩ ∧ base ≤ g ∧ g < w.heap.size ∧ w.cell? ⟨g, j, none⟩ = some (.int .u64 ss[j]) := by
  have hl : ss.length = n := by have := h.1; simpa using this
  rcases h.2 with ⟨h0, hn⟩ | ⟨g, cap, cur, hv, hb, hg, h1, h2, h3, h4⟩
  · exact ⟨none, 0, by rw [h0, hn], by omega, by omega, hl, fun j hj => by omega⟩
  · refine ⟨_, cap, hv, h1, by simpa [maxLen] using h2, hl, fun j hj => ⟨g, rfl, hb, Blk.lt hg, ?_⟩⟩
    rw [Blk.cell hg j]
    have hj' : (ss.map U)[j]? = some (U ss[j]) := by simp [hj]
    rw [← h4, List.getElem?_take] at hj'
    split at hj'
    · simpa [U] using hj'
    · cases hj'

theorem drop_min (D : List UInt8) (x : Nat) : (D.drop (min x D.length)).take (D.length - min x D.length) = D.drop x := by
  rw [List.take_of_length_le (by simp)]
  by_cases h : x ≤ D.length
  · rw [Nat.min_eq_left h]
  · rw [Nat.min_eq_right (by omega), List.drop_of_length_le (Nat.le_refl _), List.drop_of_length_le (by omega)]

/-- where the laying begins, and what of the bytes is laid -/
theorem clip {C : Nat → Option UInt8} {r a : Nat} {D : List UInt8} (n : Nat) (hn : r ≤ n) : over C (max a r) (D.drop (r - a)) n = over C a D n := by
  unfold over
  congr 1
  by_cases h1 : a ≤ n
  · rw [if_pos h1, if_pos (by omega), List.getElem?_drop]
    congr 1
    omega
  · rw [if_neg h1, if_neg (by omega)]

theorem free_of {f : Int → Option Value} {C : Nat → Option UInt8} (hcv : Cov f C) {ss : List Int} (hK : KeysOf f ss) (hsort : ss.Pairwise (· < ·)) {c j : Nat}
    (hproc : ∀ i (_ : i < j) (hi : i < ss.length) (t : List UInt8), f ss[i] = some (str t) → ss[i] + t.length ≤ c) (n : Nat) (hc : c ≤ n) (hlt : ∀ hj : j < ss.length, (n : Int) < ss[j]) : C n = none := by
  cases hC : C n with
  | none => rfl
  | some x =>
    obtain ⟨k, t, h1, h2, h3⟩ := hcv.cov n (by rw [hC]; rfl)
    have hm : (k : Int) ∈ ss := (hK.2 k).2 (by rw [h1]; rfl)
    obtain ⟨i, hi, hik⟩ := List.mem_iff_getElem.1 hm
    by_cases hij : i < j
    · have := hproc i hij hi t (by rw [hik]; exact h1)
      rw [hik] at this
      omega
    · have hj : j < ss.length := by omega
      have h4 := hlt hj
      rcases Nat.lt_or_ge j i with h5 | h5
      · have := List.pairwise_iff_getElem.1 hsort j i hj hi h5
        rw [hik] at this
        omega
      · obtain rfl : i = j := by omega
        rw [hik] at h4
        omega

set_option maxRecDepth 100000 in
set_option maxHeartbeats 16000000 in
theorem ilay_any (w : World) (b m : Nat) (o : Ib) (h : IBox w b m o) (a : Nat) (D : List UInt8) (ha : a ≤ 4611686018427387903) (hD : D.length ≤ 65536) (hroom : o.supp.length < 65536) :
    Calls Try.prog 23 #[.pointer (some ⟨b, 0, none⟩), .int .u64 a, str D] w fun e w' =>
      e = .returned (.tuple #[]) ∧ ∃ f', IMap w' m .u64 f' ∧ Cov f' (fun n => if o.ready ≤ n then over o.B a D n else none) ∧ Mod [m] w w' := by
  obtain ⟨f, hf, hcv⟩ := h.map
  have c1 := h.c1
  have c2 := h.c2
  have c3 := h.c3
  have hlen := run_length o.B o.taken o.ready
  have htk := h.wf.tk
  have hrd := h.wf.rd
  have htop := h.wf.top
  have hlim := h.wf.lim
  have hne := h.ne
  have hblk := h.blk
  have hml := h.mlt
  have hbl := h.blk.lt
  obtain ⟨at0, hat0⟩ : ∃ x, x = max a o.ready := ⟨_, rfl⟩
  obtain ⟨D0, hD0⟩ : ∃ x, x = D.drop (o.ready - a) := ⟨_, rfl⟩
  obtain ⟨C0, hC0⟩ : ∃ x, x = o.rest := ⟨_, rfl⟩
  have hat0M : at0 ≤ 4611686018427387903 := by omega
  have hD0l : D0.length ≤ 65536 := by rw [hD0, List.length_drop]; omega
  have hfin : ∀ g wx, IMap wx m .u64 g → Cov g (over C0 at0 D0) → Mod [m] w wx → ∃ f', IMap wx m .u64 f' ∧ Cov f' (fun n => if o.ready ≤ n then over o.B a D n else none) ∧ Mod [m] w wx := fun g wx h1 h2 h3 =>
    ⟨g, h1, h2.congr (fun n => by
      by_cases hn : o.ready ≤ n
      · rw [if_pos hn, hat0, hD0, clip n hn, hC0]
        unfold over Ib.rest
        rw [if_pos hn]
      · rw [if_neg hn, hC0]
        unfold over Ib.rest
        rw [if_neg hn, if_neg (by omega)]; rfl), h3⟩
  have hfar : ∀ n, (C0 n).isSome = true → n < o.far ∧ n ∈ o.supp := fun n hn => by
    rw [hC0] at hn
    unfold Ib.rest at hn
    split at hn
    · exact ⟨h.wf.bound n hn, h.wf.supp n hn⟩
    · cases hn
  rw [← hC0] at hcv
  obtain ⟨S2, hS2⟩ : ∃ S : ByteArray, S = ⟨(run o.B o.taken o.ready).toArray⟩ := ⟨_, rfl⟩
  have hS2s : S2.size = o.ready - o.taken := by rw [hS2, ← hlen]; rfl
  rw [← hS2] at c2
  have hsum : (o.taken : Int) + ((o.ready - o.taken : Nat) : Int) = o.ready := by omega
  have hwl : IntKind.u64.wrap ((o.ready - o.taken : Nat) : Int) = ((o.ready - o.taken : Nat) : Int) := IntWalk.u64_in _ (by omega)
  have hwr : IntKind.u64.wrap (o.ready : Int) = o.ready := IntWalk.u64_in _ (by omega)
  have HF := hide hfin
  have HFar := hide hfar
  have HD0 := hide hD0
  have HAt := hide hat0
  clear hfin hfar hS2 hlen h hC0 hD0 hat0
  obtain ⟨S1, hS1⟩ : ∃ S : ByteArray, S = ⟨D.toArray⟩ := ⟨_, rfl⟩
  have hS1s : S1.size = D.length := by rw [hS1]; rfl
  unfold str
  rw [← hS1]
  have HS1 := hide hS1
  clear hS1
  go_enter Try.func23, Try.ntmps23
  go_upto_region 0 with fail
  go_cut [6] (fun v wx => v = .int .u64 (o.ready : Int) ∧ Mod [] w wx)
  case first =>
    clear HF HFar
    go_quiet (fail)
    go_wp2_with fail
    go_meet
    exact ⟨rfl, (Mod.refl _ _).drewN _⟩
  case rest =>
    obtain ⟨rfl, m0⟩ := hcut
    go_upto_if 24 with fail
    go_cut [1, 2] (fun x y wx => x = .int .u64 (at0 : Int) ∧ (∃ S : ByteArray, y = .string S ∧ S.data.toList = D0) ∧ Mod [] w wx)
    case first =>
      by_cases hlt : a < o.ready
      · have hlt' : (a : Int) < o.ready := by omega
        have hsub : (o.ready : Int) - a = ((o.ready - a : Nat) : Int) := by omega
        have hw1 : IntKind.u64.wrap ((o.ready - a : Nat) : Int) = ((o.ready - a : Nat) : Int) := IntWalk.u64_in _ (by omega)
        have hw2 : IntKind.u64.wrap (D.length : Int) = D.length := IntWalk.u64_in _ (by omega)
        go_wp2_with fail
        go_meet
        have e : (min (((o.ready - a : Nat)) : Int) (D.length : Int)).toNat = min (o.ready - a) D.length := by omega
        refine ⟨by congr 1; have := HAt.out; omega, ⟨_, rfl, ?_⟩, m0⟩
        rw [e, HS1.out, str_extract, HD0.out]
        exact drop_min D (o.ready - a)
      · have hlt' : ¬ (a : Int) < o.ready := by omega
        go_wp2_with fail
        go_meet
        refine ⟨by congr 1; have := HAt.out; omega, ⟨S1, rfl, ?_⟩, m0⟩
        rw [HD0.out, HS1.out, show o.ready - a = 0 by omega]; rfl
    case rest =>
      clear c1 c2 hS2s hsum hwl hwr hS1s
      obtain ⟨rfl, ⟨S, rfl, hS⟩, m1⟩ := hcut
      have c3' := (hblk.cell 3 : w.cell? ⟨b, 3, none⟩ = _)
      clear c3 c3'
      have hb1 := m1.blk hblk (by simp)
      have hf1 := hf.mod m1 (by simp)
      have c3 : wc.cell? ⟨b, 3, none⟩ = some (.map (some m)) := hb1.cell 3
      have hks := callsIn_wide.1 (keys_u64 Fence.wide 5 trivial rfl (some m) wc)
      go_wp2_with fail
      refine hks.mono ?_
      clear hks
      rintro e w2 ⟨rfl, rfl⟩
      have m2 : Mod [] w (wc.alloc (.cells #[.map (some m)] 49)) := m1.alloc _
      have hsd := sorted_u64 (wc.alloc (.cells #[.map (some m)] 49)) wc.heap.size m f (by simp) (Blk.cell (Blk.new wc _ _) 0) (hf1.mod ((Mod.refl [] _).alloc _) (by simp)) (o.supp.map Int.ofNat) (fun x hx => by
        obtain ⟨k, s, rfl, _, _, hk⟩ := hcv.key hx
        exact List.mem_map.2 ⟨k, (HFar.out k hk).2, rfl⟩) (by simpa using hroom)
      go_wp2_with fail
      refine hsd.mono ?_
      clear hsd
      rintro e w3 ⟨v, ss, rfl, hK, hsort, hrow, m3⟩
      have m4 := m2.trans m3 (by simp)
      clear m2 m3
      obtain ⟨A, cap, rfl, hn1, hn2, hn3, hat⟩ := urow_form hrow
      have hssl : ss.length < 65536 := by
        have := nodup_le ss (o.supp.map Int.ofNat) hK.1 (fun x hx => by
          obtain ⟨k, s, rfl, _, _, hk⟩ := hcv.key ((hK.2 x).1 hx)
          exact List.mem_map.2 ⟨k, (HFar.out k hk).2, rfl⟩)
        simp at this; omega
      have hb3 := m4.blk hblk (by simp)
      have hf3 := hf.mod m4 (by simp)
      have hwsz : w.heap.size ≤ wc.heap.size := m1.size
      have hat' : ∀ j (hj : j < ss.length), ∃ g, A = some ⟨g, 0, none⟩ ∧ g ≠ m ∧ g < w3.heap.size ∧ w3.cell? ⟨g, j, none⟩ = some (.int .u64 ss[j]) := fun j hj => by
        obtain ⟨g, e1, e2, e3, e4⟩ := hat j hj
        simp at e2
        exact ⟨g, e1, by omega, e3, e4⟩
      have HAT := hide hat'
      have HSo := hide hsort
      have HKs := hide hK
      have HCv := hide hcv
      have HS0 := hide hS
      clear hb1 hf1 c3 hn3 hat hat' hrow hsort hK hcv hS hblk hf
      go_upto_block 0 with fail
      go_cut [1, 2] (fun x y wx => ∃ (c : Nat) (T : ByteArray) (g : Int → Option Value), x = .int .u64 (c : Int) ∧ y = .string T ∧ at0 ≤ c ∧ c ≤ 4611686018427387903 ∧ T.data.toList = D0.drop (c - at0) ∧ IMap wx m .u64 g ∧ Cov g (mix C0 at0 D0 c) ∧
        (∀ n, c ≤ n → n < c + T.size → C0 n = none) ∧ Mod [m] w3 wx)
      case first =>
        go_wp2_with fail
        go_loopw [1, 2, 42] (fun x y i wr => ∃ (j c : Nat) (T : ByteArray) (g : Int → Option Value), i = .int .i64 (j : Int) ∧ j ≤ ss.length ∧ x = .int .u64 (c : Int) ∧ y = .string T ∧ at0 ≤ c ∧ c ≤ 4611686018427387903 ∧ T.data.toList = D0.drop (c - at0) ∧ IMap wr m .u64 g ∧ Cov g (mix C0 at0 D0 c) ∧
          (∀ x, (f x).isSome = true → g x = f x) ∧ (∀ i' (_ : i' < j) (hi : i' < ss.length) (t : List UInt8), f ss[i'] = some (str t) → ss[i'] + t.length ≤ c) ∧ Mod [m] w3 wr)
          (fun _ _ i _ => ss.length - (intOf i).toNat)
        case atStart => exact ⟨0, at0, S, f, rfl, by omega, rfl, rfl, Nat.le_refl _, hat0M, by rw [HS0.out, Nat.sub_self]; rfl, hf3, HCv.out.congr (mix_start C0 at0 D0), fun _ _ => rfl, fun i' h1 => by omega, Mod.refl _ _⟩
        case round =>
          obtain ⟨j, c, T, g, rfl, hj, rfl, rfl, hac, hcM, hT, hg, hgc, hagree, hproc, mm⟩ := hrel
          have hTl : T.size = D0.length - (c - at0) := by
            have := congrArg List.length hT
            rw [List.length_drop] at this
            simpa using this
          have hTM : T.size ≤ 65536 := by omega
          have HTl := hide hTl
          have HT := hide hT
          have HGC := hide hgc
          have HAG := hide hagree
          have HPR := hide hproc
          clear hf3 hT hgc hagree hproc hTl
          by_cases hlt : j < ss.length
          · obtain ⟨gb, rfl, hgm, hgl, hcell⟩ := HAT.out j hlt
            obtain ⟨k, t, hkx, hfk, ht0, hCk⟩ := HCv.out.key (x := ss[j]) ((HKs.out.2 _).1 (List.getElem_mem hlt))
            have cidx : wr.cell? ⟨gb, j, none⟩ = some (.int .u64 (k : Int)) := by rw [mm.cell (p := ⟨gb, j, none⟩) hgl (by simpa using hgm), hcell, hkx]
            have cb : wr.cell? ⟨b, 3, none⟩ = some (.map (some m)) := (mm.blk hb3 (by simpa using hne)).cell 3
            have htl : 0 < t.length := List.length_pos_iff.2 ht0
            obtain ⟨e, he⟩ : ∃ e, e = k + t.length := ⟨_, rfl⟩
            have heM : e ≤ 4611686018427387903 := by
              have h1 := HCv.out.in_ hfk (n := e - 1) (by omega) (by omega)
              have := (HFar.out (e - 1) (by rw [h1]; rfl)).1
              omega
            have hlk := hg.lookup (P := Try.prog) (T := 49) Try.underlying49 Try.underlying27 (Try.zeroValue9 _) (k : Int)
            rw [HAG.out k (by rw [hfk]; rfl), hfk] at hlk
            obtain ⟨Sk, hSk⟩ : ∃ S : ByteArray, S = ⟨t.toArray⟩ := ⟨_, rfl⟩
            have hSks : Sk.size = t.length := by rw [hSk]; rfl
            have hlk2 : (Instr.lookup 49 (.map (some m)) (.int .u64 (k : Int)) false).run Try.prog wr = .ok (.string Sk) wr := by rw [hlk, hSk]; rfl
            have he' : (k : Int) + (t.length : Int) = e := by omega
            have hwe : IntKind.u64.wrap (e : Int) = e := IntWalk.u64_in _ (by omega)
            have hwt : IntKind.u64.wrap (t.length : Int) = t.length := IntWalk.u64_in _ (by omega)
            have hwT : IntKind.u64.wrap (T.size : Int) = T.size := IntWalk.u64_in _ (by omega)
            have hwcT : IntKind.u64.wrap ((c : Int) + T.size) = (c : Int) + T.size := IntWalk.u64_in _ (by omega)
            have hwe2 : IntKind.u64.wrap ((k : Int) + (t.length : Int)) = e := by rw [he']; exact hwe
            have He := hide he
            clear he
            have Hkx := hide hkx
            have Hfk := hide hfk
            have HCk := hide hCk
            clear hlk hSk hkx hfk ht0 hCk hcell
            by_cases h1 : e ≤ c
            · have h1' : (e : Int) ≤ c := by omega
              go_wp2_with fail
              go_roundw
              case rel => exact ⟨j + 1, c, T, g, by go_num, by omega, rfl, rfl, hac, hcM, HT.out, hg, HGC.out, HAG.out, fun i' hi1 hi2 t' ht' => by
                by_cases hij : i' < j
                · exact HPR.out i' hij hi2 t' ht'
                · obtain rfl : i' = j := by omega
                  rw [Hkx.out] at ht' ⊢
                  have := str_inj (Option.some.inj (Hfk.out.symm.trans ht'))
                  rw [← this]
                  omega, mm⟩
              case measure => simp [intOf]; omega
            · have h1' : ¬ (e : Int) ≤ c := by omega
              by_cases h2 : c + T.size ≤ k
              · have h2' : (c : Int) + T.size ≤ k := by omega
                go_wp2_with fail
                go_meet
                exact ⟨c, T, g, rfl, rfl, hac, hcM, HT.out, hg, HGC.out, fun n hn1 hn2 => free_of HCv.out HKs.out HSo.out HPR.out n hn1 (fun _ => by rw [Hkx.out]; omega), mm⟩
              · have h2' : ¬ (c : Int) + T.size ≤ k := by omega
                go_upto_if 69 with fail
                go_cut [] (fun wx => ∃ g' : Int → Option Value, IMap wx m .u64 g' ∧ Cov g' (mix C0 at0 D0 (max k c)) ∧ (∀ x, (f x).isSome = true → g' x = f x) ∧ Mod [m] w3 wx)
                case first =>
                  by_cases h3 : c < k
                  · have h3' : (c : Int) < k := by omega
                    obtain ⟨q, hq⟩ : ∃ q, q = k - c := ⟨_, rfl⟩
                    have hq' : (k : Int) - c = q := by omega
                    have hwq : IntKind.u64.wrap (q : Int) = q := IntWalk.u64_in _ (by omega)
                    have hqT : q ≤ T.size := by omega
                    have hqT' : (q : Int) ≤ T.size := by omega
                    have hgd : IMap wr.drew m .u64 g := hg.mod ((Mod.refl [] wr).drew) (by simp)
                    obtain ⟨s', hs'⟩ : ∃ s', s' = (D0.drop (c - at0)).take q := ⟨_, rfl⟩
                    have hTs : T.extract 0 q = ⟨s'.toArray⟩ := by
                      apply ByteArray.ext
                      apply Array.ext'
                      rw [Lib.extract_data, HT.out, List.drop_zero, Nat.sub_zero, hs']
                    have hsl : s'.length = q := by rw [hs', List.length_take, List.length_drop]; have := HTl.out; omega
                    have hfree : ∀ i, i < s'.length → C0 (c + i) = none := fun i hi => free_of HCv.out HKs.out HSo.out HPR.out (c + i) (by omega) (fun _ => by rw [Hkx.out]; omega)
                    obtain ⟨w', hup, hm', mm', hsz'⟩ := hgd.update (P := Try.prog) (T := 49) Try.underlying49 Try.underlying27 (c : Int) (.string (T.extract 0 q))
                    have hadd : Cov (upd g c (some (str s'))) (mix C0 at0 D0 (max k c)) := (HGC.out.add c s' (by intro h0; rw [h0] at hsl; simp at hsl; omega) (fun i hi => mix_none (hfree i hi) (by omega))).congr (fun n => by
                      rw [show max k c = c + s'.length by omega]
                      exact mix_more hac hfree (by rw [hsl]; exact hs') n)
                    have hres : ∃ g' : Int → Option Value, IMap w' m .u64 g' ∧ Cov g' (mix C0 at0 D0 (max k c)) ∧ (∀ x, (f x).isSome = true → g' x = f x) ∧ Mod [m] w3 w' := by
                      refine ⟨_, hm', ?_, fun x hx => ?_, (mm.drew).trans mm' (by simp)⟩
                      · rw [hTs]; exact hadd
                      · unfold upd
                        rw [if_neg, HAG.out x hx]
                        rintro rfl
                        obtain ⟨k', s2, e1, _, _, e4⟩ := HCv.out.key hx
                        obtain rfl : c = k' := by omega
                        rw [show c = c + 0 from rfl, hfree 0 (by omega)] at e4
                        cases e4
                    have HRes := hide hres
                    clear hq hgd hs' hTs hsl hfree hm' mm' hsz' hadd hres
                    go_wp2_with fail
                    go_region
                    all_goals go_wp2_with fail
                    go_meet
                    exact HRes.out
                  · have h3' : ¬ (c : Int) < k := by omega
                    go_wp2_with fail
                    go_meet
                    exact ⟨g, hg, by rw [show max k c = c by omega]; exact HGC.out, HAG.out, mm⟩
                case rest =>
                  clear hg mm HGC HAG hlk2
                  obtain ⟨g', hg, hgc, hagree, mm⟩ := hcut
                  have hgc2 : Cov g' (mix C0 at0 D0 e) := hgc.congr (fun n => mix_over (by have := He.out; omega) (fun n' h5 h6 => by
                    have := He.out
                    rw [HCv.out.in_ Hfk.out (n := n') (by omega) (by omega)]; rfl) n)
                  have HG2 := hide hgc2
                  have HA2 := hide hagree
                  obtain ⟨q2, hq2⟩ : ∃ q, q = e - c := ⟨_, rfl⟩
                  have hq2' : (e : Int) - c = q2 := by omega
                  have hwq2 : IntKind.u64.wrap (q2 : Int) = q2 := IntWalk.u64_in _ (by omega)
                  have hmax : max (e : Int) c = e := by omega
                  have hmin : (min (q2 : Int) T.size).toNat = min q2 T.size := by omega
                  have hT2 : Hid ((T.extract (min q2 T.size) T.size).data.toList = D0.drop (e - at0)) := hide (by
                    have hl : T.size = T.data.toList.length := by simp
                    rw [Lib.extract_data, hl, drop_min, HT.out, List.drop_drop]
                    congr 1
                    omega)
                  clear hgc hgc2 hagree hq2
                  go_wp2_with fail
                  go_roundw
                  case rel => exact ⟨j + 1, e, T.extract (min q2 T.size) T.size, g', by go_num, by omega, rfl, rfl, by omega, heM, hT2.out, hg, HG2.out, HA2.out, fun i' hi1 hi2 t' ht' => by
                    by_cases hij : i' < j
                    · have := HPR.out i' hij hi2 t' ht'; omega
                    · obtain rfl : i' = j := by omega
                      rw [Hkx.out] at ht' ⊢
                      have := str_inj (Option.some.inj (Hfk.out.symm.trans ht'))
                      rw [← this]
                      have := He.out
                      omega, mm⟩
                  case measure => simp [intOf]; omega
          · have hlt' : decide ((j : Int) < (ss.length : Int)) = false := decide_eq_false (by omega)
            go_wp2_with fail
            go_meet
            exact ⟨c, T, g, rfl, rfl, hac, hcM, HT.out, hg, HGC.out, fun n hn1 _ => free_of HCv.out HKs.out HSo.out HPR.out n hn1 (fun hj' => absurd hj' hlt), mm⟩
      case rest =>
        obtain ⟨c, T, g, rfl, rfl, hac, hcM, hT, hg, hgc, hfree, mm⟩ := hcut
        have hTl : T.size = D0.length - (c - at0) := by
          have := congrArg List.length hT
          rw [List.length_drop] at this
          simpa using this
        have cb : wc.cell? ⟨b, 3, none⟩ = some (.map (some m)) := (mm.blk hb3 (by simpa using hne)).cell 3
        have mw : Mod [m] w wc := (m4.mono (by simp)).trans mm (by simp)
        by_cases hz : T.size = 0
        · have hT0 : T = ⟨#[]⟩ := by
            apply ByteArray.ext
            exact Array.eq_empty_of_size_eq_zero hz
          have hres := HF.out g wc hg (hgc.congr (fun n => (mix_end (by omega) n).symm)) mw
          have HR := hide hres
          subst hT0
          clear hT hg hgc hfree mm hTl hres hz mw
          go_wp2_with fail
          go_end0
          exact ⟨rfl, HR.out⟩
        · have hneT : T.toList.isEmpty = false := by
            cases he : T.toList.isEmpty
            · rfl
            · have h0 := List.isEmpty_iff.1 he
              rw [Lib.toList_data] at h0
              have h1 : T.data.toList.length = T.size := by simp
              rw [h0] at h1
              exact absurd h1.symm hz
          obtain ⟨w', hup, hm', mm', hsz'⟩ := hg.update (P := Try.prog) (T := 49) Try.underlying49 Try.underlying27 (c : Int) (.string T)
          have hsl : T.data.toList.length = T.size := by simp
          have hTs : (.string T : Value) = str T.data.toList := rfl
          have hadd : Cov (upd g c (some (str T.data.toList))) (over C0 at0 D0) := (hgc.add c T.data.toList (by intro h0; rw [h0] at hsl; simp at hsl; omega) (fun i hi => mix_none (hfree (c + i) (by omega) (by omega)) (by omega))).congr (fun n => by
            rw [← mix_end (c := c + T.data.toList.length) (by omega) n]
            exact mix_more hac (fun i hi => hfree (c + i) (by omega) (by omega)) (by rw [hsl, hT, List.take_of_length_le (by rw [List.length_drop]; omega)]) n)
          have hres := HF.out _ w' hm' (by rw [hTs]; exact hadd) (mw.trans mm' (by simp))
          have HR := hide hres
          clear hT hg hgc hfree mm hTl hres hz mw hm' mm' hsz' hsl hTs hadd
          go_wp2_with fail
          go_end0
          exact ⟨rfl, HR.out⟩
end Go.Proofs.Ytfbcbddfmiiilaa
