/-
  the document's num, text, Write.
-/
import Derived.Test.YtkbpndohpkcikaaDoorJsRf3
import Derived.Test.YtkbpndohpkcikaaDoorJsLs
import Derived.Test.YtkbpndohpkcikaaDoorJsWr
namespace Go.Proofs.YtkbpndohpkcikaaDoor
open Go.RowKit Js Go.Sort
set_option linter.unusedVariables false
set_option linter.unusedSimpArgs false
theorem digKey : ∀ k : Fin 10, ((⟨#[48, 49, 50, 51, 52, 53, 54, 55, 56, 57]⟩ : ByteArray).extract k.val (k.val + 1)) = ⟨#[UInt8.ofNat (48 + k.val)]⟩ := by decide
theorem dec_le {n : Nat} (h : n < 9223372036854775808) : (Lib.decDigits n).length ≤ 20 := by
  have := itoa_le (i := (n : Int)) (by unfold i64B; simp; omega)
  unfold Lib.itoa at this
  rw [if_neg (by omega)] at this
  simpa using this
set_option maxRecDepth 100000 in
set_option maxHeartbeats 4000000 in
theorem rnum_nat (n : Nat) : ∀ (w : World), n < 9223372036854775808 → Calls Tryd.prog 37 #[.int .i64 (n : Int)] w fun e w' => ∃ P : ByteArray, e = .returned (.string P) ∧ P.data.toList = Lib.decDigits n ∧ w = w' := by
  induction n using Nat.strongRecOn with
  | _ n ih =>
    intro w hn
    have d1 : ((n : Int) == -9223372036854775808) = false := by rw [beq_eq_false_iff_ne]; omega
    have d2 : decide ((n : Int) < 0) = false := decide_eq_false (by omega)
    by_cases h : n < 10
    · have d3 : (n : Int) < 10 := by omega
      have HK : Hid ((⟨#[48, 49, 50, 51, 52, 53, 54, 55, 56, 57]⟩ : ByteArray).extract n (n + 1) = ⟨#[UInt8.ofNat (48 + n)]⟩) := hide (digKey ⟨n, h⟩)
      have a1 : IntKind.i64.wrap ((n : Int) + 1) = (n : Int) + 1 := IntWalk.i64_in _ (by omega)
      have b1 : (n : Int) + 1 ≤ 10 := by omega
      have b2 : (n : Int) ≤ (n : Int) + 1 := by omega
      have b3 : n + 1 ≤ 10 := by omega
      have HD : Hid (Lib.decDigits n = [UInt8.ofNat (48 + n)]) := hide (by rw [Lib.decDigits, dif_pos h])
      clear ih h
      go_enter Tryd.func37, Tryd.ntmps37
      go_wp2_with fail
      go_ret
      exact ⟨⟨#[UInt8.ofNat (48 + n)]⟩, congrArg (fun s => Ending.returned (.string s)) HK.out, by rw [HD.out], rfl⟩
    · have d3 : decide ((n : Int) < 10) = false := decide_eq_false (by omega)
      have d3n : decide (n < 10) = false := decide_eq_false (by omega)
      have H1 := hide (ih (n / 10) (by omega) w (by omega))
      have H2 := hide (ih (n % 10) (by omega) w (by omega))
      have e1 : ((n / 10 : Nat) : Int) = (n : Int) / 10 := by omega
      have e2 : ((n % 10 : Nat) : Int) = (n : Int) % 10 := by omega
      rw [e1] at H1
      rw [e2] at H2
      have HD : Hid (Lib.decDigits n = Lib.decDigits (n / 10) ++ Lib.decDigits (n % 10)) := hide (by
        have h2 : Lib.decDigits (n % 10) = [UInt8.ofNat (48 + n % 10)] := by rw [Lib.decDigits, dif_pos (Nat.mod_lt _ (by omega))]
        rw [h2, Lib.decDigits, dif_neg h])
      have L1 := dec_le (n := n / 10) (by omega)
      have L2 := dec_le (n := n % 10) (by omega)
      clear ih h e1 e2
      go_enter Tryd.func37, Tryd.ntmps37
      go_wp2_with fail
      refine H1.out.mono ?_
      rintro e w1 ⟨P, rfl, hP, rfl⟩
      go_wp2_with fail
      refine H2.out.mono ?_
      rintro e w1 ⟨Q, rfl, hQ, rfl⟩
      have hs : ¬ 9223372036854775807 < P.size + Q.size := by
        rw [← bytes_len P, ← bytes_len Q, hP, hQ]; omega
      have HP := hide hP
      have HQ := hide hQ
      clear hP hQ
      go_wp2_with fail
      go_ret
      exact ⟨P ++ Q, rfl, by simp [HP.out, HQ.out, HD.out], rfl⟩
theorem itoa_min : Lib.itoa (-9223372036854775808) = [45, 57, 50, 50, 51, 51, 55, 50, 48, 51, 54, 56, 53, 52, 55, 55, 53, 56, 48, 56] := by
  unfold Lib.itoa
  rw [if_pos (by decide)]
  have key : ∀ u : Nat, Lib.decDigits u = if u < 10 then [UInt8.ofNat (48 + u)] else Lib.decDigits (u / 10) ++ [UInt8.ofNat (48 + u % 10)] := by
    intro u
    rw [Lib.decDigits]
    split <;> rfl
  rw [show (-9223372036854775808 : Int).natAbs = 9223372036854775808 from rfl]
  repeat (rw [key]; simp only [Nat.reduceDiv, Nat.reduceMod, Nat.reduceLT, Nat.reduceAdd, if_true, if_false])
  rfl
set_option maxRecDepth 100000 in
set_option maxHeartbeats 4000000 in
theorem rnum_any (w : World) (i : Int) (hi : i64B i = true) : Calls Tryd.prog 37 #[.int .i64 i] w fun e w' => ∃ P : ByteArray, e = .returned (.string P) ∧ P.data.toList = Lib.itoa i ∧ w = w' := by
  obtain ⟨h1, h2⟩ := i64_parts hi
  by_cases hneg : i < 0
  · by_cases hm : i = -9223372036854775808
    · subst hm
      clear hneg h1 h2 hi
      go_enter Tryd.func37, Tryd.ntmps37
      go_wp2_with fail
      go_ret
      exact ⟨_, rfl, itoa_min.symm, rfl⟩
    · obtain ⟨n, hn⟩ : ∃ n : Nat, i = -(n : Int) := ⟨i.natAbs, by omega⟩
      subst hn
      have d1 : (-(n : Int) == -9223372036854775808) = false := by rw [beq_eq_false_iff_ne]; omega
      have hnn : n < 9223372036854775808 := by omega
      have H := hide (rnum_nat n w hnn)
      have a1 : IntKind.i64.wrap (- -(n : Int)) = (n : Int) := by rw [Int.neg_neg]; exact IntWalk.i64_in _ (by omega)
      have a2 : IntKind.i64.wrap (n : Int) = (n : Int) := IntWalk.i64_in _ (by omega)
      have HL : Hid (Lib.itoa (-(n : Int)) = 45 :: Lib.decDigits n) := hide (by
        unfold Lib.itoa
        rw [if_pos hneg, Int.natAbs_neg, Int.natAbs_natCast])
      have L1 := dec_le (n := n) (by omega)
      clear hm h1 h2 hi
      go_enter Tryd.func37, Tryd.ntmps37
      go_wp2_with fail
      refine H.out.mono ?_
      rintro e w1 ⟨P, rfl, hP, rfl⟩
      have hs : ¬ 9223372036854775807 < 1 + P.size := by rw [← bytes_len P, hP]; omega
      have HP := hide hP
      clear hP
      go_wp2_with fail
      go_ret
      exact ⟨_, rfl, by rw [HL.out, ← HP.out]; simp, rfl⟩
  · obtain ⟨n, rfl⟩ := Int.eq_ofNat_of_zero_le (show 0 ≤ i by omega)
    have e : Lib.itoa (n : Int) = Lib.decDigits n := by
      unfold Lib.itoa
      rw [if_neg hneg]; rfl
    rw [e]
    exact rnum_nat n w (by omega)
theorem jwrs_mono (obj : Bool) (l : List JV) (ks : List ByteArray) (j : Nat) : ∀ m, (jwrs obj (l.take j) ks).length ≤ (jwrs obj (l.take (j + m)) ks).length
  | 0 => Nat.le_refl _
  | m + 1 => by
    refine Nat.le_trans (jwrs_mono obj l ks j m) ?_
    rcases Nat.lt_or_ge (j + m) l.length with h | h
    · obtain ⟨x, hx⟩ : ∃ x, l[j + m]? = some x := ⟨_, List.getElem?_eq_getElem h⟩
      rw [← Nat.add_assoc, take_snoc hx, jwrs_snoc]
      simp only [List.length_append]; omega
    · rw [List.take_of_length_le h, List.take_of_length_le (by omega)]; exact Nat.le_refl _
theorem jwrs_take_le (obj : Bool) (l : List JV) (ks : List ByteArray) (j : Nat) : (jwrs obj (l.take j) ks).length ≤ (jwrs obj l ks).length := by
  have := jwrs_mono obj l ks j l.length
  rwa [List.take_of_length_le (l := l) (i := j + l.length) (by omega)] at this
theorem jkeyed_drop {ks : List ByteArray} {j : Nat} {k : ByteArray} (h : ks[j]? = some k) : jkeyed true (ks.drop j) = quo k.data.toList ++ [58] := by
  obtain ⟨hj, rfl⟩ := List.getElem?_eq_some_iff.1 h
  rw [List.drop_eq_getElem_cons hj, jkeyed, if_pos rfl]
  rfl
/-- the document's text, of a value that may be, of at most that size -/
def RTxtOk (N : Nat) : Prop := ∀ (w : World) (x : JN) (d : Nat), x.sz ≤ N → JIn w x → jmay d x.v = true → jrng x.v = true → (jwr x.v).length ≤ 100000 →
  Calls Tryd.prog 24 #[.agg x.cells] w fun e w' => ∃ P : ByteArray, e = .returned (.string P) ∧ P.data.toList = jwr x.v ∧ Mod [] w w'
set_option maxRecDepth 100000 in
set_option maxHeartbeats 16000000 in
theorem rtxt_step (N : Nat) (hS : RTxtOk N) : RTxtOk (N + 1) := by
  intro w x d hsz hx hmay hrng hlen
  obtain ⟨xk, xi, xt, xA, xc, xl, xB, xd, xs⟩ := x
  rw [JIn] at hx
  rw [JN.sz] at hsz
  rw [JN.v] at hmay hrng hlen
  obtain ⟨⟨hx1, hx2⟩, hx3, hx4, hx5⟩ := hx
  unfold jmax at hx1 hx2
  rw [jrng, Bool.and_eq_true] at hrng
  obtain ⟨n, hn⟩ : ∃ n, xl.length = n := ⟨_, rfl⟩
  obtain ⟨m, hm⟩ : ∃ m, xs.length = m := ⟨_, rfl⟩
  have HN := hide hn
  have HMm := hide hm
  have HK := hide hx3
  have HR := hide hx4
  have HI := hide hx5
  have HS := hide hS
  have HSz : Hid (JN.szs xl ≤ N) := hide (by omega)
  have HRg := hide hrng.2
  have hri := hrng.1
  simp only [JN.cells]
  rw [hn, hm, JN.v]
  rw [hn] at hx1
  rw [hm] at hx2
  have hk : xk = 0 ∨ xk = 1 ∨ xk = 2 ∨ xk = 3 ∨ xk = 4 ∨ xk = 5 ∨ xk = 6 := by
    have h1 := hmay
    rw [jmay] at h1
    simp only [Bool.and_eq_true, Bool.or_eq_true, decide_eq_true_eq] at h1
    omega
  clear hx3 hx4 hx5 hn hm hS hsz hrng
  rcases hk with rfl | rfl | rfl | rfl | rfl | rfl | rfl
  · have HM0 := hide ((Mod.refl [] w).alloc (.cells #[.int .i64 0, .int .i64 xi, .string xt, .slice xA n xc, .slice xB m xd] 25))
    have HB0 := hide (Blk.new w 25 #[.int .i64 0, .int .i64 xi, .string xt, .slice xA n xc, .slice xB m xd])
    have HJ : Hid (jwr (.mk 0 xi xt (JN.vs xl) xs) = [110, 117, 108, 108]) := hide (by rw [jwr]; rfl)
    clear hmay hri hlen
    go_enter Tryd.func24, Tryd.ntmps24
    go_wp2_with fail
    go_ret
    exact ⟨_, rfl, by rw [HJ.out], HM0.out⟩
  · have HM0 := hide ((Mod.refl [] w).alloc (.cells #[.int .i64 1, .int .i64 xi, .string xt, .slice xA n xc, .slice xB m xd] 25))
    have HB0 := hide (Blk.new w 25 #[.int .i64 1, .int .i64 xi, .string xt, .slice xA n xc, .slice xB m xd])
    have HJ : Hid (jwr (.mk 1 xi xt (JN.vs xl) xs) = [102, 97, 108, 115, 101]) := hide (by rw [jwr]; rfl)
    clear hmay hri hlen
    go_enter Tryd.func24, Tryd.ntmps24
    go_wp2_with fail
    go_ret
    exact ⟨_, rfl, by rw [HJ.out], HM0.out⟩
  · have HM0 := hide ((Mod.refl [] w).alloc (.cells #[.int .i64 2, .int .i64 xi, .string xt, .slice xA n xc, .slice xB m xd] 25))
    have HB0 := hide (Blk.new w 25 #[.int .i64 2, .int .i64 xi, .string xt, .slice xA n xc, .slice xB m xd])
    have HJ : Hid (jwr (.mk 2 xi xt (JN.vs xl) xs) = [116, 114, 117, 101]) := hide (by rw [jwr]; rfl)
    clear hmay hri hlen
    go_enter Tryd.func24, Tryd.ntmps24
    go_wp2_with fail
    go_ret
    exact ⟨_, rfl, by rw [HJ.out], HM0.out⟩
  · have HM0 := hide ((Mod.refl [] w).alloc (.cells #[.int .i64 3, .int .i64 xi, .string xt, .slice xA n xc, .slice xB m xd] 25))
    have HB0 := hide (Blk.new w 25 #[.int .i64 3, .int .i64 xi, .string xt, .slice xA n xc, .slice xB m xd])
    have HJ : Hid (jwr (.mk 3 xi xt (JN.vs xl) xs) = Lib.itoa xi) := hide (by rw [jwr]; rfl)
    have HC := hide (rnum_any (w.alloc (.cells #[.int .i64 3, .int .i64 xi, .string xt, .slice xA n xc, .slice xB m xd] 25)) xi hri)
    clear hmay hri hlen
    go_enter Tryd.func24, Tryd.ntmps24
    go_wp2_with fail
    refine HC.out.mono ?_
    rintro e w2 ⟨P, rfl, hP, rfl⟩
    have HP := hide hP
    clear hP
    go_wp2_with fail
    go_ret
    exact ⟨P, rfl, by rw [HJ.out, HP.out], HM0.out⟩
  · have HM0 := hide ((Mod.refl [] w).alloc (.cells #[.int .i64 4, .int .i64 xi, .string xt, .slice xA n xc, .slice xB m xd] 25))
    have HB0 := hide (Blk.new w 25 #[.int .i64 4, .int .i64 xi, .string xt, .slice xA n xc, .slice xB m xd])
    have HJ : Hid (jwr (.mk 4 xi xt (JN.vs xl) xs) = quo xt.data.toList) := hide (by rw [jwr]; rfl)
    have hxt : xt.size ≤ 100000 := by
      have h1 := quo_len xt.data.toList
      rw [bytes_len] at h1
      rw [HJ.out] at hlen
      omega
    have HC := hide (rquote_any (w.alloc (.cells #[.int .i64 4, .int .i64 xi, .string xt, .slice xA n xc, .slice xB m xd] 25)) xt hxt)
    clear hmay hri hlen
    go_enter Tryd.func24, Tryd.ntmps24
    go_wp2_with fail
    refine HC.out.mono ?_
    rintro e w2 ⟨rfl, m2⟩
    have HM2 := hide (HM0.out.trans m2 (by simp))
    clear m2
    go_wp2_with fail
    go_ret
    exact ⟨⟨(quo xt.data.toList).toArray⟩, rfl, by rw [HJ.out], HM2.out⟩
  · have HM0 := hide ((Mod.refl [] w).alloc (.cells #[.int .i64 5, .int .i64 xi, .string xt, .slice xA n xc, .slice xB m xd] 25))
    have HB0 := hide (Blk.new w 25 #[.int .i64 5, .int .i64 xi, .string xt, .slice xA n xc, .slice xB m xd])
    have HJ : Hid (jwr (.mk 5 xi xt (JN.vs xl) xs) = 91 :: (jwrs false (JN.vs xl) xs ++ [93])) := hide (by rw [jwr, if_neg (by decide), if_neg (by decide), if_neg (by decide), if_neg (by decide), if_neg (by decide), if_neg (by decide)])
    have HLn : Hid ((jwrs false (JN.vs xl) xs).length ≤ 100000) := hide (by
      rw [HJ.out] at hlen
      simp only [List.length_cons, List.length_append, List.length_nil] at hlen; omega)
    have hpa := jmay_parts hmay

    have HMs : Hid (jmays (d - 1) (JN.vs xl) = true) := hide (by
      rw [jmay] at hmay
      simp only [Bool.and_eq_true] at hmay
      exact hmay.2)
    clear hmay hri hlen hpa
    go_enter Tryd.func24, Tryd.ntmps24
    go_wp2_with fail
    go_loopw [3, 4] (fun ov iv wr => ∃ (j : Nat) (O : ByteArray), j ≤ n ∧ ov = .string O ∧ iv = .int .i64 (j : Int) ∧ Hid (O.data.toList = jwrs false ((JN.vs xl).take j) xs) ∧ Hid (Mod [] w wr) ∧ Hid (Blk wr w.heap.size 25 #[.int .i64 5, .int .i64 xi, .string xt, .slice xA n xc, .slice xB m xd])) (fun _ iv _ => n - (intOf iv).toNat)
    case atStart => exact ⟨0, _, by omega, rfl, rfl, hide (by rw [List.take_zero, jwrs]), HM0, HB0⟩
    case round =>
      obtain ⟨j, O, hjn, rfl, rfl, hO, hmi, hbi⟩ := hrel
      have hos : O.size ≤ 100000 := by
        have h1 := jwrs_take_le false (JN.vs xl) xs j
        rw [← hO.out, bytes_len] at h1
        have := HLn.out
        omega
      have x0 : wr.cell? ⟨w.heap.size, 0, none⟩ = some (.int .i64 5) := hbi.out.cell 0
      have x3 : wr.cell? ⟨w.heap.size, 3, none⟩ = some (.slice xA n xc) := hbi.out.cell 3
      by_cases h2 : j < n
      · obtain ⟨u, hu⟩ : ∃ u, xl[j]? = some u := ⟨_, List.getElem?_eq_getElem (by have := HN.out; omega)⟩
        obtain ⟨g, o, rfl, hg, hc⟩ := HR.out.at_ hu
        have hev : (JN.vs xl)[j]? = some u.v := by rw [JN.vs_at, hu]; rfl
        have HEv := hide hev
        have HTk : Hid (((JN.vs xl).take j).length = j) := hide (by rw [List.length_take, JN.vs_len]; have := HN.out; omega)
        have HLe : Hid ((jwr u.v).length ≤ 100000) := hide (by
          have h1 := jwrs_take_le false (JN.vs xl) xs (j + 1)
          rw [take_snoc hev, jwrs_snoc] at h1
          simp only [List.length_append] at h1
          have := HLn.out
          omega)
        have HT := hide (fun (w' : World) (mm : Mod [] w w') => HS.out w' u (d - 1) (by have := JN.szs_mem (List.mem_of_getElem? hu); have := HSz.out; omega) ((HI.out.at_ hu).new mm) ((jmays_iff _ _).1 HMs.out _ (List.mem_of_getElem? hev)) (jrngs_at HRg.out hev) HLe.out)
        obtain ⟨uA, uc, un, uB, ud, um, hcu, -, -⟩ := u.open5
        generalize u.v.k = uk at hcu
        generalize u.v.i = ui at hcu
        generalize u.v.t = ut at hcu
        rw [hcu] at hc HT
        have HC := hide hc
        have hii : (j : Int) < (n : Int) := by omega
        have a1 : IntKind.i64.wrap ((j : Int) + 1) = (j : Int) + 1 := IntWalk.i64_in _ (by omega)
        clear hu hev hc hcu h2
        by_cases hj0 : j = 0
        · have hj1 : decide ((0 : Int) < (j : Int)) = false := decide_eq_false (by omega)
          have hj1n : decide (0 < j) = false := decide_eq_false (by omega)
          have HJ0 := hide hj0
          clear hj0
          have c3' : wr.cell? ⟨w.heap.size, 3, none⟩ = some (.slice (some ⟨g, o, none⟩) n xc) := hbi.out.cell 3
          have y0 : wr.cell? ⟨g, o + j * 5, none⟩ = some (.int .i64 uk) := (hmi.out.cell (p := ⟨g, o + j * 5, none⟩) hg (by simp)).trans (HC.out 0 _ rfl)
          have y1 : wr.cell? ⟨g, o + j * 5 + 1, none⟩ = some (.int .i64 ui) := (hmi.out.cell (p := ⟨g, o + j * 5 + 1, none⟩) hg (by simp)).trans (HC.out 1 _ rfl)
          have y2 : wr.cell? ⟨g, o + j * 5 + 2, none⟩ = some (.string ut) := (hmi.out.cell (p := ⟨g, o + j * 5 + 2, none⟩) hg (by simp)).trans (HC.out 2 _ rfl)
          have y3 : wr.cell? ⟨g, o + j * 5 + 3, none⟩ = some (.slice uA un uc) := (hmi.out.cell (p := ⟨g, o + j * 5 + 3, none⟩) hg (by simp)).trans (HC.out 3 _ rfl)
          have y4 : wr.cell? ⟨g, o + j * 5 + 4, none⟩ = some (.slice uB um ud) := (hmi.out.cell (p := ⟨g, o + j * 5 + 4, none⟩) hg (by simp)).trans (HC.out 4 _ rfl)
          have HTx := hide (HT.out _ hmi.out)
          go_wp2_with fail
          refine HTx.out.mono ?_
          rintro e2 w3 ⟨Q, rfl, hQ, m3⟩
          have HM3 := hide (hmi.out.trans m3 (by simp))
          have HB3 := hide (m3.blk hbi.out (by simp))
          have hqs : Q.size ≤ 100000 := by rw [← bytes_len, hQ]; have := HLe.out; omega
          have s5 : ¬ 9223372036854775807 < O.size + Q.size := by omega
          obtain ⟨O2, hO2⟩ : ∃ O2, O2 = O ++ Q := ⟨_, rfl⟩
          have HO2 : Hid (O2.data.toList = jwrs false ((JN.vs xl).take (j + 1)) xs) := hide (by
            rw [hO2, take_snoc HEv.out, jwrs_snoc, HTk.out, if_pos HJ0.out]
            simp [hO.out, hQ, jkeyed])
          have HOe := hide hO2
          clear hQ m3 hO2 HTx y0 y1 y2 y3 y4
          go_wp2_with fail
          rw [← HOe.out]
          refine ⟨?rel, ?measure⟩
          case rel => exact ⟨j + 1, O2, by omega, rfl, by go_num, HO2, HM3, HB3⟩
          case measure => simp [intOf]; omega
        · have hj1 : (0 : Int) < (j : Int) := by omega
          have s0 : ¬ 9223372036854775807 < O.size + 1 := by omega
          have HJ0 := hide hj0
          clear hj0
          have c3' : wr.cell? ⟨w.heap.size, 3, none⟩ = some (.slice (some ⟨g, o, none⟩) n xc) := hbi.out.cell 3
          have y0 : wr.cell? ⟨g, o + j * 5, none⟩ = some (.int .i64 uk) := (hmi.out.cell (p := ⟨g, o + j * 5, none⟩) hg (by simp)).trans (HC.out 0 _ rfl)
          have y1 : wr.cell? ⟨g, o + j * 5 + 1, none⟩ = some (.int .i64 ui) := (hmi.out.cell (p := ⟨g, o + j * 5 + 1, none⟩) hg (by simp)).trans (HC.out 1 _ rfl)
          have y2 : wr.cell? ⟨g, o + j * 5 + 2, none⟩ = some (.string ut) := (hmi.out.cell (p := ⟨g, o + j * 5 + 2, none⟩) hg (by simp)).trans (HC.out 2 _ rfl)
          have y3 : wr.cell? ⟨g, o + j * 5 + 3, none⟩ = some (.slice uA un uc) := (hmi.out.cell (p := ⟨g, o + j * 5 + 3, none⟩) hg (by simp)).trans (HC.out 3 _ rfl)
          have y4 : wr.cell? ⟨g, o + j * 5 + 4, none⟩ = some (.slice uB um ud) := (hmi.out.cell (p := ⟨g, o + j * 5 + 4, none⟩) hg (by simp)).trans (HC.out 4 _ rfl)
          have HTx := hide (HT.out _ hmi.out)
          go_wp2_with fail
          refine HTx.out.mono ?_
          rintro e2 w3 ⟨Q, rfl, hQ, m3⟩
          have HM3 := hide (hmi.out.trans m3 (by simp))
          have HB3 := hide (m3.blk hbi.out (by simp))
          have hqs : Q.size ≤ 100000 := by rw [← bytes_len, hQ]; have := HLe.out; omega
          have s5 : ¬ 9223372036854775807 < O.size + 1 + Q.size := by omega
          obtain ⟨O2, hO2⟩ : ∃ O2, O2 = (O ++ ⟨#[44]⟩) ++ Q := ⟨_, rfl⟩
          have HO2 : Hid (O2.data.toList = jwrs false ((JN.vs xl).take (j + 1)) xs) := hide (by
            rw [hO2, take_snoc HEv.out, jwrs_snoc, HTk.out, if_neg HJ0.out]
            simp [hO.out, hQ, jkeyed])
          have HOe := hide hO2
          clear hQ m3 hO2 HTx y0 y1 y2 y3 y4
          go_wp2_with fail
          rw [← HOe.out]
          refine ⟨?rel, ?measure⟩
          case rel => exact ⟨j + 1, O2, by omega, rfl, by go_num, HO2, HM3, HB3⟩
          case measure => simp [intOf]; omega
      · have hii : decide ((j : Int) < (n : Int)) = false := decide_eq_false (by omega)
        have hiin : decide (j < n) = false := decide_eq_false (by omega)
        have hjn2 : j = n := by omega
        have HOf : Hid (O.data.toList = jwrs false (JN.vs xl) xs) := hide (by rw [hO.out, hjn2, ← HN.out, ← JN.vs_len, List.take_length])
        have s1 : ¬ 9223372036854775807 < 1 + O.size := by omega
        have s2 : ¬ 9223372036854775807 < 1 + O.size + 1 := by omega
        clear h2 hjn2
        go_wp2_with fail
        go_ret
        exact ⟨_, rfl, by rw [HJ.out, ← HOf.out]; simp, hmi.out⟩
  · have HM0 := hide ((Mod.refl [] w).alloc (.cells #[.int .i64 6, .int .i64 xi, .string xt, .slice xA n xc, .slice xB m xd] 25))
    have HB0 := hide (Blk.new w 25 #[.int .i64 6, .int .i64 xi, .string xt, .slice xA n xc, .slice xB m xd])
    have HJ : Hid (jwr (.mk 6 xi xt (JN.vs xl) xs) = 123 :: (jwrs true (JN.vs xl) xs ++ [125])) := hide (by rw [jwr, if_neg (by decide), if_neg (by decide), if_neg (by decide), if_neg (by decide), if_neg (by decide), if_pos rfl])
    have HLn : Hid ((jwrs true (JN.vs xl) xs).length ≤ 100000) := hide (by
      rw [HJ.out] at hlen
      simp only [List.length_cons, List.length_append, List.length_nil] at hlen; omega)
    have hpa := jmay_parts hmay
    have HMn : Hid (m = n) := hide (by have h1 := jmay_len hmay rfl; rw [JN.vs_len] at h1; have := HMm.out; have := HN.out; omega)
    have HMs : Hid (jmays (d - 1) (JN.vs xl) = true) := hide (by
      rw [jmay] at hmay
      simp only [Bool.and_eq_true] at hmay
      exact hmay.2)
    clear hmay hri hlen hpa
    go_enter Tryd.func24, Tryd.ntmps24
    go_wp2_with fail
    go_loopw [3, 4] (fun ov iv wr => ∃ (j : Nat) (O : ByteArray), j ≤ n ∧ ov = .string O ∧ iv = .int .i64 (j : Int) ∧ Hid (O.data.toList = jwrs true ((JN.vs xl).take j) xs) ∧ Hid (Mod [] w wr) ∧ Hid (Blk wr w.heap.size 25 #[.int .i64 6, .int .i64 xi, .string xt, .slice xA n xc, .slice xB m xd])) (fun _ iv _ => n - (intOf iv).toNat)
    case atStart => exact ⟨0, _, by omega, rfl, rfl, hide (by rw [List.take_zero, jwrs]), HM0, HB0⟩
    case round =>
      obtain ⟨j, O, hjn, rfl, rfl, hO, hmi, hbi⟩ := hrel
      have hos : O.size ≤ 100000 := by
        have h1 := jwrs_take_le true (JN.vs xl) xs j
        rw [← hO.out, bytes_len] at h1
        have := HLn.out
        omega
      have x0 : wr.cell? ⟨w.heap.size, 0, none⟩ = some (.int .i64 6) := hbi.out.cell 0
      have x3 : wr.cell? ⟨w.heap.size, 3, none⟩ = some (.slice xA n xc) := hbi.out.cell 3
      by_cases h2 : j < n
      · obtain ⟨u, hu⟩ : ∃ u, xl[j]? = some u := ⟨_, List.getElem?_eq_getElem (by have := HN.out; omega)⟩
        obtain ⟨g, o, rfl, hg, hc⟩ := HR.out.at_ hu
        have hev : (JN.vs xl)[j]? = some u.v := by rw [JN.vs_at, hu]; rfl
        have HEv := hide hev
        have HTk : Hid (((JN.vs xl).take j).length = j) := hide (by rw [List.length_take, JN.vs_len]; have := HN.out; omega)
        obtain ⟨key, hkey⟩ : ∃ key, xs[j]? = some key := ⟨_, List.getElem?_eq_getElem (by have := HMm.out; have := HMn.out; omega)⟩
        obtain ⟨g2, o2, rfl, hg2, hc2⟩ := (HK.out.new hmi.out).at_ hkey
        have HKd := hide (jkeyed_drop hkey)
        have HLe : Hid ((jwr u.v).length ≤ 100000) := hide (by
          have h1 := jwrs_take_le true (JN.vs xl) xs (j + 1)
          rw [take_snoc hev, jwrs_snoc] at h1
          simp only [List.length_append] at h1
          have := HLn.out
          omega)
        have HT := hide (fun (w' : World) (mm : Mod [] w w') => HS.out w' u (d - 1) (by have := JN.szs_mem (List.mem_of_getElem? hu); have := HSz.out; omega) ((HI.out.at_ hu).new mm) ((jmays_iff _ _).1 HMs.out _ (List.mem_of_getElem? hev)) (jrngs_at HRg.out hev) HLe.out)
        obtain ⟨uA, uc, un, uB, ud, um, hcu, -, -⟩ := u.open5
        generalize u.v.k = uk at hcu
        generalize u.v.i = ui at hcu
        generalize u.v.t = ut at hcu
        rw [hcu] at hc HT
        have HC := hide hc
        have hii : (j : Int) < (n : Int) := by omega
        have a1 : IntKind.i64.wrap ((j : Int) + 1) = (j : Int) + 1 := IntWalk.i64_in _ (by omega)
        clear hu hev hc hcu h2
        have HLk : Hid ((quo key.data.toList).length ≤ 100000) := hide (by
          have h1 := jwrs_take_le true (JN.vs xl) xs (j + 1)
          rw [take_snoc HEv.out, jwrs_snoc, HTk.out, HKd.out] at h1
          simp only [List.length_append] at h1
          have := HLn.out
          omega)
        have hky : key.size ≤ 100000 := by have h1 := quo_len key.data.toList; rw [bytes_len] at h1; have := HLk.out; omega
        have HQk := hide (fun (w' : World) => rquote_any w' key hky)
        have x4 : wr.cell? ⟨w.heap.size, 4, none⟩ = some (.slice (some ⟨g2, o2, none⟩) m xd) := hbi.out.cell 4
        have hjm : (j : Int) < (m : Int) := by have := HMn.out; omega
        by_cases hj0 : j = 0
        · have hj1 : decide ((0 : Int) < (j : Int)) = false := decide_eq_false (by omega)
          have hj1n : decide (0 < j) = false := decide_eq_false (by omega)
          have HJ0 := hide hj0
          clear hj0
          go_wp2_with fail
          refine (HQk.out wr).mono ?_
          rintro e2 w2 ⟨rfl, m2⟩
          have HM2 := hide (hmi.out.trans m2 (by simp))
          have HB2 := hide (m2.blk hbi.out (by simp))
          obtain ⟨KQ, hKQ⟩ : ∃ KQ : ByteArray, KQ = ⟨(quo key.data.toList).toArray⟩ := ⟨_, rfl⟩
          have HKQ : Hid (KQ.data.toList = quo key.data.toList) := hide (by rw [hKQ])
          have hks : KQ.size ≤ 100000 := by rw [← bytes_len, HKQ.out]; have := HLk.out; omega
          rw [show (str (quo key.data.toList) : Value) = .string KQ by rw [hKQ]; rfl]
          clear m2 hKQ
          have s1 : ¬ 9223372036854775807 < KQ.size + 1 := by omega
          have s2 : ¬ 9223372036854775807 < O.size + (KQ.size + 1) := by omega
          have c3' : w2.cell? ⟨w.heap.size, 3, none⟩ = some (.slice (some ⟨g, o, none⟩) n xc) := HB2.out.cell 3
          have y0 : w2.cell? ⟨g, o + j * 5, none⟩ = some (.int .i64 uk) := (HM2.out.cell (p := ⟨g, o + j * 5, none⟩) hg (by simp)).trans (HC.out 0 _ rfl)
          have y1 : w2.cell? ⟨g, o + j * 5 + 1, none⟩ = some (.int .i64 ui) := (HM2.out.cell (p := ⟨g, o + j * 5 + 1, none⟩) hg (by simp)).trans (HC.out 1 _ rfl)
          have y2 : w2.cell? ⟨g, o + j * 5 + 2, none⟩ = some (.string ut) := (HM2.out.cell (p := ⟨g, o + j * 5 + 2, none⟩) hg (by simp)).trans (HC.out 2 _ rfl)
          have y3 : w2.cell? ⟨g, o + j * 5 + 3, none⟩ = some (.slice uA un uc) := (HM2.out.cell (p := ⟨g, o + j * 5 + 3, none⟩) hg (by simp)).trans (HC.out 3 _ rfl)
          have y4 : w2.cell? ⟨g, o + j * 5 + 4, none⟩ = some (.slice uB um ud) := (HM2.out.cell (p := ⟨g, o + j * 5 + 4, none⟩) hg (by simp)).trans (HC.out 4 _ rfl)
          have HTx := hide (HT.out _ HM2.out)
          go_wp2_with fail
          refine HTx.out.mono ?_
          rintro e2 w3 ⟨Q, rfl, hQ, m3⟩
          have HM3 := hide (HM2.out.trans m3 (by simp))
          have HB3 := hide (m3.blk HB2.out (by simp))
          have hqs : Q.size ≤ 100000 := by rw [← bytes_len, hQ]; have := HLe.out; omega
          have s5 : ¬ 9223372036854775807 < O.size + (KQ.size + 1) + Q.size := by omega
          obtain ⟨O2, hO2⟩ : ∃ O2, O2 = (O ++ (KQ ++ ⟨#[58]⟩)) ++ Q := ⟨_, rfl⟩
          have HO2 : Hid (O2.data.toList = jwrs true ((JN.vs xl).take (j + 1)) xs) := hide (by
            rw [hO2, take_snoc HEv.out, jwrs_snoc, HTk.out, if_pos HJ0.out, HKd.out]
            simp [hO.out, hQ, HKQ.out])
          have HOe := hide hO2
          clear hQ m3 hO2 HTx y0 y1 y2 y3 y4
          go_wp2_with fail
          rw [← HOe.out]
          refine ⟨?rel, ?measure⟩
          case rel => exact ⟨j + 1, O2, by omega, rfl, by go_num, HO2, HM3, HB3⟩
          case measure => simp [intOf]; omega
        · have hj1 : (0 : Int) < (j : Int) := by omega
          have s0 : ¬ 9223372036854775807 < O.size + 1 := by omega
          have HJ0 := hide hj0
          clear hj0
          go_wp2_with fail
          refine (HQk.out wr).mono ?_
          rintro e2 w2 ⟨rfl, m2⟩
          have HM2 := hide (hmi.out.trans m2 (by simp))
          have HB2 := hide (m2.blk hbi.out (by simp))
          obtain ⟨KQ, hKQ⟩ : ∃ KQ : ByteArray, KQ = ⟨(quo key.data.toList).toArray⟩ := ⟨_, rfl⟩
          have HKQ : Hid (KQ.data.toList = quo key.data.toList) := hide (by rw [hKQ])
          have hks : KQ.size ≤ 100000 := by rw [← bytes_len, HKQ.out]; have := HLk.out; omega
          rw [show (str (quo key.data.toList) : Value) = .string KQ by rw [hKQ]; rfl]
          clear m2 hKQ
          have s1 : ¬ 9223372036854775807 < KQ.size + 1 := by omega
          have s2 : ¬ 9223372036854775807 < O.size + 1 + (KQ.size + 1) := by omega
          have c3' : w2.cell? ⟨w.heap.size, 3, none⟩ = some (.slice (some ⟨g, o, none⟩) n xc) := HB2.out.cell 3
          have y0 : w2.cell? ⟨g, o + j * 5, none⟩ = some (.int .i64 uk) := (HM2.out.cell (p := ⟨g, o + j * 5, none⟩) hg (by simp)).trans (HC.out 0 _ rfl)
          have y1 : w2.cell? ⟨g, o + j * 5 + 1, none⟩ = some (.int .i64 ui) := (HM2.out.cell (p := ⟨g, o + j * 5 + 1, none⟩) hg (by simp)).trans (HC.out 1 _ rfl)
          have y2 : w2.cell? ⟨g, o + j * 5 + 2, none⟩ = some (.string ut) := (HM2.out.cell (p := ⟨g, o + j * 5 + 2, none⟩) hg (by simp)).trans (HC.out 2 _ rfl)
          have y3 : w2.cell? ⟨g, o + j * 5 + 3, none⟩ = some (.slice uA un uc) := (HM2.out.cell (p := ⟨g, o + j * 5 + 3, none⟩) hg (by simp)).trans (HC.out 3 _ rfl)
          have y4 : w2.cell? ⟨g, o + j * 5 + 4, none⟩ = some (.slice uB um ud) := (HM2.out.cell (p := ⟨g, o + j * 5 + 4, none⟩) hg (by simp)).trans (HC.out 4 _ rfl)
          have HTx := hide (HT.out _ HM2.out)
          go_wp2_with fail
          refine HTx.out.mono ?_
          rintro e2 w3 ⟨Q, rfl, hQ, m3⟩
          have HM3 := hide (HM2.out.trans m3 (by simp))
          have HB3 := hide (m3.blk HB2.out (by simp))
          have hqs : Q.size ≤ 100000 := by rw [← bytes_len, hQ]; have := HLe.out; omega
          have s5 : ¬ 9223372036854775807 < O.size + 1 + (KQ.size + 1) + Q.size := by omega
          obtain ⟨O2, hO2⟩ : ∃ O2, O2 = ((O ++ ⟨#[44]⟩) ++ (KQ ++ ⟨#[58]⟩)) ++ Q := ⟨_, rfl⟩
          have HO2 : Hid (O2.data.toList = jwrs true ((JN.vs xl).take (j + 1)) xs) := hide (by
            rw [hO2, take_snoc HEv.out, jwrs_snoc, HTk.out, if_neg HJ0.out, HKd.out]
            simp [hO.out, hQ, HKQ.out])
          have HOe := hide hO2
          clear hQ m3 hO2 HTx y0 y1 y2 y3 y4
          go_wp2_with fail
          rw [← HOe.out]
          refine ⟨?rel, ?measure⟩
          case rel => exact ⟨j + 1, O2, by omega, rfl, by go_num, HO2, HM3, HB3⟩
          case measure => simp [intOf]; omega
      · have hii : decide ((j : Int) < (n : Int)) = false := decide_eq_false (by omega)
        have hiin : decide (j < n) = false := decide_eq_false (by omega)
        have hjn2 : j = n := by omega
        have HOf : Hid (O.data.toList = jwrs true (JN.vs xl) xs) := hide (by rw [hO.out, hjn2, ← HN.out, ← JN.vs_len, List.take_length])
        have s1 : ¬ 9223372036854775807 < 1 + O.size := by omega
        have s2 : ¬ 9223372036854775807 < 1 + O.size + 1 := by omega
        clear h2 hjn2
        go_wp2_with fail
        go_ret
        exact ⟨_, rfl, by rw [HJ.out, ← HOf.out]; simp, hmi.out⟩
theorem rtxt_all : ∀ n, RTxtOk n
  | 0 => fun w x d h => by cases x; rw [JN.sz] at h; omega
  | n + 1 => rtxt_step n (rtxt_all n)
set_option maxHeartbeats 8000000 in
theorem rwriteL (w : World) (x : JN) (hx : JIn w x) (hr : jrng x.v = true) (hl : (jwr x.v).length ≤ 100000) (hb : jmay 8 x.v = true) :
    Calls Tryd.prog 12 #[.agg x.cells] w fun e w' => ∃ P : ByteArray, e = .returned (.tuple #[.string P, .int .i64 0]) ∧ P.data.toList = jwr x.v ∧ Mod [] w w' := by
  have HMay := hide (fun w' (m : Mod [] w w') => rmay_any w' x (hx.new m) true hb)
  have HTx := hide (fun w' (m : Mod [] w w') => rtxt_all x.sz w' x 8 (Nat.le_refl _) (hx.new m) hb hr hl)
  obtain ⟨xA, xc, xn, xB, xd, xm, hcx, -, -⟩ := x.open5
  generalize x.v.k = xk at hcx
  generalize x.v.i = xi at hcx
  generalize x.v.t = xt at hcx
  rw [hcx] at HMay HTx ⊢
  have HM0 := hide ((Mod.refl [] w).alloc (.cells #[.int .i64 xk, .int .i64 xi, .string xt, .slice xA xn xc, .slice xB xm xd] 25))
  have HB0 := hide (Blk.new w 25 #[.int .i64 xk, .int .i64 xi, .string xt, .slice xA xn xc, .slice xB xm xd])
  clear hx hr hl hb hcx
  go_enter Tryd.func12, Tryd.ntmps12
  go_wp2_with fail
  refine (HMay.out _ HM0.out).mono ?_
  rintro e w2 ⟨rfl, m2⟩
  have HM2 := hide (HM0.out.trans m2 (by simp))
  have HB2 := hide (m2.blk HB0.out (by simp))
  clear m2
  have q0 : w2.cell? ⟨w.heap.size, 0, none⟩ = some (.int .i64 xk) := HB2.out.cell 0
  have q1 : w2.cell? ⟨w.heap.size, 1, none⟩ = some (.int .i64 xi) := HB2.out.cell 1
  have q2 : w2.cell? ⟨w.heap.size, 2, none⟩ = some (.string xt) := HB2.out.cell 2
  have q3 : w2.cell? ⟨w.heap.size, 3, none⟩ = some (.slice xA xn xc) := HB2.out.cell 3
  have q4 : w2.cell? ⟨w.heap.size, 4, none⟩ = some (.slice xB xm xd) := HB2.out.cell 4
  go_wp2_with fail
  refine (HTx.out _ HM2.out).mono ?_
  rintro e w3 ⟨P, rfl, hP, m3⟩
  have HM3 := hide (HM2.out.trans m3 (by simp))
  have HP := hide hP
  clear m3 hP
  go_wp2_with fail
  go_ret2
  exact ⟨P, rfl, HP.out, HM3.out⟩
set_option maxHeartbeats 8000000 in
theorem rwriteN (w : World) (x : JN) (hx : JIn w x) (hb : jmay 8 x.v = false) :
    Calls Tryd.prog 12 #[.agg x.cells] w fun e w' => e = .returned (.tuple #[.string ⟨#[]⟩, .int .i64 2]) ∧ Mod [] w w' := by
  have HMay := hide (fun w' (m : Mod [] w w') => rmay_any w' x (hx.new m) false hb)
  obtain ⟨xA, xc, xn, xB, xd, xm, hcx, -, -⟩ := x.open5
  generalize x.v.k = xk at hcx
  generalize x.v.i = xi at hcx
  generalize x.v.t = xt at hcx
  rw [hcx] at HMay ⊢
  have HM0 := hide ((Mod.refl [] w).alloc (.cells #[.int .i64 xk, .int .i64 xi, .string xt, .slice xA xn xc, .slice xB xm xd] 25))
  clear hx hb hcx
  go_enter Tryd.func12, Tryd.ntmps12
  go_wp2_with fail
  refine (HMay.out _ HM0.out).mono ?_
  rintro e w2 ⟨rfl, m2⟩
  have HM2 := hide (HM0.out.trans m2 (by simp))
  clear m2
  go_wp2_with fail
  go_ret2
  exact ⟨rfl, HM2.out⟩
end Go.Proofs.YtkbpndohpkcikaaDoor
