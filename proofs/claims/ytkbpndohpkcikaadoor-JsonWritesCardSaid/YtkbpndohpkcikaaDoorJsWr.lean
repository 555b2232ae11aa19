/-
  json: written.
-/
import Derived.Test.YtkbpndohpkcikaaDoorJsGet
import Derived.Test.YtkbpndohpkcikaaDoorJsQuo
import Derived.Test.YtkbpndohpkcikaaDoorJsP2
import Derived.Test.YtkbpndohpkcikaaDoorJsRd5
import Derived.Shelf.Strconv.Itoa4
import Derived.Deep.DeepCutAuto
import Derived.Deep.CutBlock
namespace Go.Proofs.YtkbpndohpkcikaaDoor
open Go.RowKit Js
set_option linter.unusedVariables false
set_option linter.unusedSimpArgs false

def fiRen : Go.Shelf.Ren := ⟨fun | 129 => 67 | 173 => 34 | 246 => 48 | 283 => 57 | 284 => 58 | 285 => 59 | 286 => 60 | 317 => 66 | 318 => 68 | 319 => 69 | 320 => 70 | 337 => 77 | 338 => 78 | n => n, fun | 0 => 0 | 2 => 2 | 3 => 3 | 4 => 4 | 5 => 5 | 9 => 9 | 17 => 17 | 18 => 18 | 19 => 19 | 20 => 20 | 37 => 43 | 46 => 76 | 51 => 96 | 53 => 86 | 171 => 85 | 173 => 89 | 212 => 95 | 213 => 97 | 232 => 112 | 233 => 113 | n => n, fun | 17 => 0 | 18 => 4 | 19 => 5 | n => n⟩
theorem fiLays : Go.Proofs.LaysM.n173 Tryd.prog fiRen := {
  mixed := by kernel_rfl,
  f129 := Tryd.func67.trans (congrArg some (by kernel_rfl)),
  f173 := Tryd.func34.trans (congrArg some (by kernel_rfl)),
  f246 := Tryd.func48.trans (congrArg some (by kernel_rfl)),
  f283 := Tryd.func57.trans (congrArg some (by kernel_rfl)),
  f284 := Tryd.func58.trans (congrArg some (by kernel_rfl)),
  f285 := Tryd.func59.trans (congrArg some (by kernel_rfl)),
  f286 := Tryd.func60.trans (congrArg some (by kernel_rfl)),
  f317 := Tryd.func66.trans (congrArg some (by kernel_rfl)),
  f318 := Tryd.func68.trans (congrArg some (by kernel_rfl)),
  f319 := Tryd.func69.trans (congrArg some (by kernel_rfl)),
  f320 := Tryd.func70.trans (congrArg some (by kernel_rfl)),
  f337 := Tryd.func77.trans (congrArg some (by kernel_rfl)),
  f338 := Tryd.func78.trans (congrArg some (by kernel_rfl)),
  t0 := Tryd.underlying0,
  a0 := Tryd.isAgg0,
  z0 := Tryd.sizeOf0,
  v0 := Tryd.zeroValue0,
  t2 := Tryd.underlying2,
  a2 := Tryd.isAgg2,
  z2 := Tryd.sizeOf2,
  v2 := Tryd.zeroValue2,
  t3 := Tryd.underlying3,
  a3 := Tryd.isAgg3,
  z3 := Tryd.sizeOf3,
  v3 := Tryd.zeroValue3,
  t4 := Tryd.underlying4,
  a4 := Tryd.isAgg4,
  z4 := Tryd.sizeOf4,
  v4 := Tryd.zeroValue4,
  t5 := Tryd.underlying5,
  a5 := Tryd.isAgg5,
  z5 := Tryd.sizeOf5,
  v5 := Tryd.zeroValue5,
  t9 := Tryd.underlying9,
  a9 := Tryd.isAgg9,
  z9 := Tryd.sizeOf9,
  v9 := Tryd.zeroValue9,
  t20 := Tryd.underlying20,
  a20 := Tryd.isAgg20,
  z20 := Tryd.sizeOf20,
  v20 := Tryd.zeroValue20,
  t37 := Tryd.underlying43,
  a37 := Tryd.isAgg43,
  z37 := Tryd.sizeOf43,
  v37 := Tryd.zeroValue43,
  t46 := Tryd.underlying76,
  a46 := Tryd.isAgg76,
  z46 := Tryd.sizeOf76,
  v46 := Tryd.zeroValue76,
  t51 := Tryd.underlying96,
  a51 := Tryd.isAgg96,
  z51 := Tryd.sizeOf96,
  v51 := Tryd.zeroValue96,
  t53 := Tryd.underlying86,
  a53 := Tryd.isAgg86,
  z53 := Tryd.sizeOf86,
  v53 := Tryd.zeroValue86,
  t171 := Tryd.underlying85,
  a171 := Tryd.isAgg85,
  z171 := Tryd.sizeOf85,
  v171 := Tryd.zeroValue85,
  t173 := Tryd.underlying89,
  a173 := Tryd.isAgg89,
  z173 := Tryd.sizeOf89,
  v173 := Tryd.zeroValue89,
  t212 := Tryd.underlying95,
  a212 := Tryd.isAgg95,
  z212 := Tryd.sizeOf95,
  v212 := Tryd.zeroValue95,
  t213 := Tryd.underlying97,
  a213 := Tryd.isAgg97,
  z213 := Tryd.sizeOf97,
  t232 := Tryd.underlying112,
  a232 := Tryd.isAgg112,
  z232 := Tryd.sizeOf112,
  v232 := Tryd.zeroValue112,
  t233 := Tryd.underlying113,
  a233 := Tryd.isAgg113,
  z233 := Tryd.sizeOf113,
  v233 := Tryd.zeroValue113,
  g17 := by kernel_rfl,
  g18 := by kernel_rfl,
  g19 := by kernel_rfl,
  i0 := by kernel_rfl,
  i2 := by kernel_rfl,
  i3 := by kernel_rfl,
  i4 := by kernel_rfl,
  i5 := by kernel_rfl,
  i9 := by kernel_rfl,
  i20 := by kernel_rfl,
  i37 := by kernel_rfl,
  i46 := by kernel_rfl,
  i51 := by kernel_rfl,
  i53 := by kernel_rfl,
  i171 := by kernel_rfl,
  i173 := by kernel_rfl,
  i212 := by kernel_rfl,
  i232 := by kernel_rfl,
  i233 := by kernel_rfl,
  m17 := by kernel_rfl,
  m18 := by kernel_rfl,
  m19 := by kernel_rfl }

theorem Mod.of_grow (w : World) (k : Nat) (os : Array Obj) : Mod [] w (Sort.grow (w.drewN k) os) :=
  ⟨rfl, rfl, rfl, by show w.heap.size ≤ (w.heap ++ os).size; rw [Array.size_append]; omega, fun j hj _ => Sort.heap_grow_old (w.drewN k) os hj⟩
theorem formatInt_any (w : World) (n : Int) (h0 : -9223372036854775808 ≤ n) (h1 : n < 9223372036854775808) (B : Nat) (hv : JVars B w) :
    Calls Tryd.prog 34 #[.int .i64 n, .int .i64 10] w fun e w' => e = .returned (str (Lib.itoa n)) ∧ Mod [] w w' := by
  have hc : Calls Tryd.prog 34 #[.int .i64 n, .int .i64 10] w _ := Any.strconv_FormatInt_10 fiLays n h0 (by omega) w (hv w (Below.refl B w)).1
  refine hc.mono ?_
  rintro e w' ⟨rfl, k, os, rfl⟩
  exact ⟨rfl, Mod.of_grow _ _ _⟩

/-! ### plain -/
def jrest (obj : Bool) (l : List JV) (ks : List ByteArray) (i : Nat) : List UInt8 := if i = 0 then jwrs obj l ks else jwrsR obj (l.drop i) (ks.drop i)
theorem jrest_step {obj : Bool} {l : List JV} {ks : List ByteArray} {i : Nat} {x : JV} (h : l[i]? = some x) :
    jrest obj l ks i = (if i = 0 then [] else [44]) ++ (jkeyed obj (ks.drop i) ++ (jwr x ++ jrest obj l ks (i + 1))) := by
  have hd : l.drop i = x :: l.drop (i + 1) := by
    obtain ⟨h1, h2⟩ := List.getElem?_eq_some_iff.1 h
    rw [List.drop_eq_getElem_cons h1, h2]
  unfold jrest
  rw [if_neg (Nat.succ_ne_zero i)]
  have ht : (ks.drop i).tail = ks.drop (i + 1) := by rw [List.tail_drop]
  by_cases h0 : i = 0
  · subst h0
    rw [if_pos rfl, if_pos rfl]
    rw [List.drop_zero] at hd ht
    rw [hd, jwrs, ht, List.drop_zero]
    simp
  · rw [if_neg h0, if_neg h0, hd, jwrsR, ht]
    simp
theorem jrest_end {obj : Bool} {l : List JV} {ks : List ByteArray} {i : Nat} (h : l.length ≤ i) : jrest obj l ks i = [] := by
  unfold jrest
  by_cases h0 : i = 0
  · subst h0
    rw [if_pos rfl]
    cases l with
    | nil => rw [jwrs]
    | cons x l => simp at h
  · rw [if_neg h0, List.drop_eq_nil_of_le h, jwrsR]
theorem jmays_at {d : Nat} {l : List JV} {i : Nat} {x : JV} (h : jmays d l = true) (hx : l[i]? = some x) : jmay d x = true := (jmays_iff d l).1 h x (List.mem_of_getElem? hx)
theorem jrngs_at : ∀ {l : List JV} {i : Nat} {x : JV}, jrngs l = true → l[i]? = some x → jrng x = true
  | [], i, x, h, hx => by simp at hx
  | y :: l, 0, x, h, hx => by
    cases hx
    rw [jrngs, Bool.and_eq_true] at h
    exact h.1
  | y :: l, i + 1, x, h, hx => by
    rw [jrngs, Bool.and_eq_true] at h
    exact jrngs_at h.2 (by simpa using hx)
theorem quo_len (s : List UInt8) : s.length ≤ (quo s).length := by
  unfold quo
  have : ∀ l : List UInt8, l.length ≤ (l.flatMap esc).length := fun l => by
    induction l with
    | nil => simp
    | cons c t ih =>
      rw [List.flatMap_cons, List.length_append, List.length_cons]
      have : 1 ≤ (esc c).length := by
        unfold esc
        cases sign c with
        | some b => simp
        | none => by_cases h : c < 32 ∨ 126 < c <;> simp [h]
      omega
  have := this s
  simp only [List.length_cons, List.length_append]
  omega
theorem JN.szs_at {l : List JN} {i : Nat} {x : JN} (h : l[i]? = some x) : x.sz ≤ JN.szs l := JN.szs_mem (List.mem_of_getElem? h)

theorem BStep.refl (B b : Nat) (w : World) : BStep B b w w := ⟨Below.refl B w, Lib.OthersKept.refl _ _ w⟩
theorem BStep.trans {B b : Nat} {u v w : World} (h : BStep B b u v) (k : BStep B b v w) : BStep B b u w := ⟨h.below.trans k.below, h.others.trans k.others⟩
theorem BStep.of_mod {B b : Nat} {w w' : World} (m : Mod [] w w') (hB : B ≤ w.heap.size) : BStep B b w w' :=
  ⟨m.below hB (by simp), fun k o hk _ _ => (m.block k (Array.getElem?_eq_some_iff.1 hk).1 (by simp)).trans hk⟩
/-- a value being written -/
structure WS (W w0 w : World) (B b vb : Nat) (cs : Array Value) (acc : List UInt8) : Prop where
  bld : BldO w B b acc
  step : BStep B b w0 w
  mod : Mod [] W w
  v : Blk w vb 25 cs
  le : B ≤ w.heap.size
  ne : vb ≠ b
  base : W.heap.size ≤ B
  vars : JVars B w
theorem WS.new {W w0 w w' : World} {B b vb : Nat} {cs : Array Value} {acc : List UInt8} (h : WS W w0 w B b vb cs acc) (m : Mod [] w w') : WS W w0 w' B b vb cs acc :=
  ⟨h.bld.mod m (by simp), h.step.trans (BStep.of_mod m h.le), h.mod.trans m (by simp), m.blk h.v (by simp), Nat.le_trans h.le m.size, h.ne, h.base, h.vars.mod m h.le (by simp)⟩
theorem WS.wrote {W w0 w w' : World} {B b vb : Nat} {cs : Array Value} {acc acc' : List UInt8} (h : WS W w0 w B b vb cs acc) (hb : BldO w' B b acc') (k : BStep B b w w') : WS W w0 w' B b vb cs acc' :=
  ⟨hb, h.step.trans k, k.mod h.mod h.base, k.blk h.v h.ne (by decide), Nat.le_trans h.le k.below.size, h.ne, h.base, h.vars.step k.below⟩
theorem wsString {W w0 w : World} {B b vb : Nat} {cs : Array Value} {acc : List UInt8} (h : WS W w0 w B b vb cs acc) (s : ByteArray) (l : List UInt8) (hs : s.data.toList = l) (hl : acc.length + l.length ≤ 140737488355328) :
    Calls Tryd.prog 33 #[.pointer (some ⟨b, 0, none⟩), .string s] w fun e w' => ∃ v, e = .returned v ∧ WS W w0 w' B b vb cs (acc ++ l) ∧ BStep B b w w' := by
  subst hs
  rw [bytes_len] at hl
  refine (bwrite_any w B b acc s h.bld hl h.le).mono ?_
  rintro e w' ⟨rfl, h1, h2⟩
  exact ⟨_, rfl, h.wrote h1 h2, h2⟩
theorem wsByte {W w0 w : World} {B b vb : Nat} {cs : Array Value} {acc : List UInt8} (h : WS W w0 w B b vb cs acc) (c : UInt8) (x : Int) (hx : x = (c.toNat : Int)) (hl : acc.length + 1 ≤ 140737488355328) :
    Calls Tryd.prog 36 #[.pointer (some ⟨b, 0, none⟩), .int .u8 x] w fun e w' => ∃ v, e = .returned v ∧ WS W w0 w' B b vb cs (acc ++ [c]) ∧ BStep B b w w' := by
  subst hx
  refine (bbyte_any w B b acc c h.bld hl h.le).mono ?_
  rintro e w' ⟨rfl, h1, h2⟩
  exact ⟨_, rfl, h.wrote h1 h2, h2⟩
theorem key_at {ks : List ByteArray} {i : Nat} {key : ByteArray} (h : ks[i]? = some key) : jkeyed true (ks.drop i) = quo key.data.toList ++ [58] := by
  obtain ⟨h1, h2⟩ := List.getElem?_eq_some_iff.1 h
  rw [List.drop_eq_getElem_cons h1, h2]
  rfl
/-- written does what it shall, of values of at most that size -/
def WrOk (n : Nat) : Prop := ∀ (W w : World) (B b d : Nat) (acc : List UInt8) (x : JN), x.sz ≤ n → jmay d x.v = true → jrng x.v = true → JIn W x → W.heap.size ≤ B → B ≤ w.heap.size → Mod [] W w → BldO w B b acc → JVars B w →
  acc.length + (jwr x.v).length ≤ 1099511627776 →
  Calls Tryd.prog 22 #[.pointer (some ⟨b, 0, none⟩), .agg x.cells] w fun e w' => e = .returned (.tuple #[]) ∧ BldO w' B b (acc ++ jwr x.v) ∧ BStep B b w w'
set_option maxRecDepth 100000 in
set_option maxHeartbeats 8000000 in
theorem written_step (N : Nat) (hW : WrOk N) : WrOk (N + 1) := by
  intro W w B b d acc x hsz hmay hrng hx hWB hBw hM hbld hvars hlen
  obtain ⟨xk, xi, xt, xA, xc, xl, xB, xd, xs⟩ := x
  have hv : (JN.mk xk xi xt xA xc xl xB xd xs).v = .mk xk xi xt (JN.vs xl) xs := by rw [JN.v]
  rw [hv] at hmay hrng hlen ⊢
  have HMay := hide hmay
  have HRng := hide hrng
  rw [JIn] at hx
  obtain ⟨⟨hx1, hx2⟩, hx3, hx4, hx5⟩ := hx
  rw [JN.sz] at hsz
  have hsz2 : JN.szs xl ≤ N := by omega
  simp only [JN.cells]
  have hblt := hbld.lt
  have HS := hide (show WS W w (w.alloc (.cells #[.int .i64 xk, .int .i64 xi, .string xt, .slice xA xl.length xc, .slice xB xs.length xd] 25)) B b w.heap.size #[.int .i64 xk, .int .i64 xi, .string xt, .slice xA xl.length xc, .slice xB xs.length xd] acc from
    ⟨hbld.mod ((Mod.refl [] w).alloc _) (by simp), BStep.of_mod ((Mod.refl [] w).alloc _) hBw, hM.alloc _, Blk.new w _ _, by rw [World.size_alloc]; omega, by omega, hWB, hvars.mod ((Mod.refl [] w).alloc _) hBw (by simp)⟩)
  have HKeys := hide hx3
  have HRow := hide hx4
  have HIns := hide hx5
  have HWr := hide hW
  obtain ⟨n, hn⟩ : ∃ n, xl.length = n := ⟨_, rfl⟩
  obtain ⟨m, hm⟩ : ∃ m, xs.length = m := ⟨_, rfl⟩
  have HN := hide hn
  have HMm := hide hm
  unfold jmax at hx1 hx2
  rw [hn] at HS hx1
  rw [hm] at HS hx2
  rw [hn, hm]
  have hks := (jmay_parts hmay)
  have HSz := hide hsz2
  clear hW hx3 hx4 hx5 hn hm hsz hsz2 hv hrng hM hbld hvars hmay
  go_enter Tryd.func22, Tryd.ntmps22
  have hkk : xk = 0 ∨ xk = 1 ∨ xk = 2 ∨ xk = 3 ∨ xk = 4 ∨ xk = 5 ∨ xk = 6 := by
    have := HMay.out
    rw [jmay] at this
    simp only [Bool.and_eq_true, Bool.or_eq_true, decide_eq_true_eq] at this
    obtain ⟨⟨⟨⟨⟨⟨_, h⟩, _⟩, _⟩, _⟩, _⟩, _⟩ := this
    omega
  clear hks
  rcases hkk with hk | hk | hk | hk | hk | hk | hk
  · subst hk
    have HRes : Hid (jwr (.mk 0 xi xt (JN.vs xl) xs) = [110, 117, 108, 108]) := hide (by rw [jwr]; rfl)
    rw [HRes.out] at hlen ⊢
    go_wp2_with fail
    refine (wsString HS.out ⟨#[110, 117, 108, 108]⟩ [110, 117, 108, 108] rfl (by simp at hlen ⊢; omega)).mono ?_
    rintro e w2 ⟨v, rfl, hs2, _⟩
    have HS2 := hide hs2
    clear hs2
    go_wp2_with fail
    refine ⟨rfl, _, results_none rfl _ _ _, ?_⟩
    exact ⟨rfl, HS2.out.bld, HS2.out.step⟩
  · subst hk
    have HRes : Hid (jwr (.mk 1 xi xt (JN.vs xl) xs) = [102, 97, 108, 115, 101]) := hide (by rw [jwr]; rfl)
    rw [HRes.out] at hlen ⊢
    go_wp2_with fail
    refine (wsString HS.out ⟨#[102, 97, 108, 115, 101]⟩ [102, 97, 108, 115, 101] rfl (by simp at hlen ⊢; omega)).mono ?_
    rintro e w2 ⟨v, rfl, hs2, _⟩
    have HS2 := hide hs2
    clear hs2
    go_wp2_with fail
    refine ⟨rfl, _, results_none rfl _ _ _, ?_⟩
    exact ⟨rfl, HS2.out.bld, HS2.out.step⟩
  · subst hk
    have HRes : Hid (jwr (.mk 2 xi xt (JN.vs xl) xs) = [116, 114, 117, 101]) := hide (by rw [jwr]; rfl)
    rw [HRes.out] at hlen ⊢
    go_wp2_with fail
    refine (wsString HS.out ⟨#[116, 114, 117, 101]⟩ [116, 114, 117, 101] rfl (by simp at hlen ⊢; omega)).mono ?_
    rintro e w2 ⟨v, rfl, hs2, _⟩
    have HS2 := hide hs2
    clear hs2
    go_wp2_with fail
    refine ⟨rfl, _, results_none rfl _ _ _, ?_⟩
    exact ⟨rfl, HS2.out.bld, HS2.out.step⟩
  · subst hk
    have HRes : Hid (jwr (.mk 3 xi xt (JN.vs xl) xs) = Lib.itoa xi) := hide (by rw [jwr]; rfl)
    rw [HRes.out] at hlen ⊢
    have hi : i64B xi = true := by
      have := HRng.out
      rw [jrng, Bool.and_eq_true] at this
      exact this.1
    obtain ⟨hi1, hi2⟩ := i64_parts hi
    have HF := hide (formatInt_any _ xi hi1 hi2 B HS.out.vars)
    go_wp2_with fail
    refine HF.out.mono ?_
    rintro e w2 ⟨rfl, m2⟩
    have HS2 := hide (HS.out.new m2)
    clear m2 HF
    go_wp2_with fail
    refine (wsString HS2.out _ (Lib.itoa xi) (by simp) (by omega)).mono ?_
    rintro e w3 ⟨v, rfl, hs3, _⟩
    have HS3 := hide hs3
    clear hs3
    go_wp2_with fail
    refine ⟨rfl, _, results_none rfl _ _ _, ?_⟩
    exact ⟨rfl, HS3.out.bld, HS3.out.step⟩
  · subst hk
    have HRes : Hid (jwr (.mk 4 xi xt (JN.vs xl) xs) = quo xt.data.toList) := hide (by rw [jwr]; rfl)
    rw [HRes.out] at hlen ⊢
    have HQ := hide (fun w => quoted_any w xt (by have := quo_len xt.data.toList; rw [bytes_len] at this; omega))
    go_wp2_with fail
    refine (HQ.out _).mono ?_
    rintro e w2 ⟨rfl, m2⟩
    have HS2 := hide (HS.out.new m2)
    clear m2 HQ
    go_wp2_with fail
    refine (wsString HS2.out _ (quo xt.data.toList) (by simp) (by omega)).mono ?_
    rintro e w3 ⟨v, rfl, hs3, _⟩
    have HS3 := hide hs3
    clear hs3
    go_wp2_with fail
    refine ⟨rfl, _, results_none rfl _ _ _, ?_⟩
    exact ⟨rfl, HS3.out.bld, HS3.out.step⟩
  · subst hk
    have HRes : Hid (jwr (.mk 5 xi xt (JN.vs xl) xs) = 91 :: (jwrs false (JN.vs xl) xs ++ [93])) := hide (by rw [jwr]; rfl)
    rw [HRes.out] at hlen ⊢
    have HLn : Hid ((acc ++ (91 :: jwrs false (JN.vs xl) xs)).length + 1 ≤ 1099511627776) := hide (by simp only [List.length_append, List.length_cons, List.length_nil] at hlen ⊢; omega)
    have HMs : Hid (jmays (d - 1) (JN.vs xl) = true) := hide (jmay_parts HMay.out).2.2.2.2.2.2
    have HRs : Hid (jrngs (JN.vs xl) = true) := hide (by
      have := HRng.out
      rw [jrng, Bool.and_eq_true] at this
      exact this.2)
    obtain ⟨vb, hvb⟩ : ∃ vb, w.heap.size = vb := ⟨_, rfl⟩
    clear HRes
    go_wp2_with fail
    rw [hvb] at HS
    refine (wsByte HS.out 91 _ rfl (by omega)).mono ?_
    rintro e w2 ⟨v, rfl, hs2, _⟩
    have HS2 := hide hs2
    have q0 : w2.cell? ⟨vb, 0, none⟩ = some (.int .i64 5) := hs2.v.cell 0
    have q3 : w2.cell? ⟨vb, 3, none⟩ = some (.slice xA n xc) := hs2.v.cell 3
    clear hs2 hvb
    go_wp2_with fail
    go_loopw [19] (fun iv wr => ∃ (i : Nat) (acc' : List UInt8), i ≤ n ∧ iv = .int .i64 (i : Int) ∧ Hid (WS W w wr B b vb #[.int .i64 5, .int .i64 xi, .string xt, .slice xA n xc, .slice xB m xd] acc') ∧ Hid (acc' ++ jrest false (JN.vs xl) xs i = acc ++ (91 :: jwrs false (JN.vs xl) xs))) (fun iv _ => n - (intOf iv).toNat)
    case atStart => exact ⟨0, _, by omega, rfl, HS2, hide (by unfold jrest; rw [if_pos rfl]; simp)⟩
    case round =>
      clear HS2 q0 q3
      obtain ⟨i, acc', hi, rfl, HS2, HE⟩ := hrel
      by_cases h2 : i < n
      · obtain ⟨u, hu⟩ : ∃ u, xl[i]? = some u := ⟨_, List.getElem?_eq_getElem (by rw [HN.out]; exact h2)⟩
        have huv : (JN.vs xl)[i]? = some u.v := by rw [JN.vs_at, hu]; rfl
        obtain ⟨g, o, rfl, hg, hc⟩ := (HRow.out.new HS2.out.mod).at_ hu
        have hii : (i : Int) < n := by omega
        have a1 : IntKind.i64.wrap ((i : Int) + 1) = (i : Int) + 1 := IntWalk.i64_in _ (by omega)
        have HUz := hide (Nat.le_trans (JN.szs_at hu) HSz.out)
        have HUm := hide (jmays_at HMs.out huv)
        have HUr := hide (jrngs_at HRs.out huv)
        have HUi := hide (HIns.out.at_ hu)
        have HSt := hide HE.out
        rw [jrest_step huv] at HSt
        obtain ⟨uk, ui, ut, uA, uc, ul, uB, ud, us⟩ := u
        have y0 : wr.cell? ⟨g, o + i * 5, none⟩ = some (.int .i64 uk) := hc 0 _ rfl
        have y1 : wr.cell? ⟨g, o + i * 5 + 1, none⟩ = some (.int .i64 ui) := hc 1 _ rfl
        have y2 : wr.cell? ⟨g, o + i * 5 + 2, none⟩ = some (.string ut) := hc 2 _ rfl
        have y3 : wr.cell? ⟨g, o + i * 5 + 3, none⟩ = some (.slice uA ul.length uc) := hc 3 _ rfl
        have y4 : wr.cell? ⟨g, o + i * 5 + 4, none⟩ = some (.slice uB us.length ud) := hc 4 _ rfl
        have HX2 := hide (Blk.new wr 25 #[.int .i64 uk, .int .i64 ui, .string ut, .slice uA ul.length uc, .slice uB us.length ud])
        have HS3 := hide (HS2.out.new ((Mod.refl [] wr).alloc (.cells #[.int .i64 uk, .int .i64 ui, .string ut, .slice uA ul.length uc, .slice uB us.length ud] 25)))
        have hxb0 := HS2.out.bld.lt
        have hvx := HS2.out.v.lt
        obtain ⟨xb, hxb⟩ : ∃ xb, wr.heap.size = xb := ⟨_, rfl⟩
        rw [hxb] at HX2 hxb0 hvx
        clear hu huv hc HE
        by_cases hi0 : i = 0
        · have i0 : decide ((0 : Int) < (i : Int)) = false := decide_eq_false (by omega)
          have i0n : decide (0 < i) = false := decide_eq_false (by omega)
          have Hi0 := hide hi0
          clear hi0
          have z0 : (wr.alloc (.cells #[.int .i64 uk, .int .i64 ui, .string ut, .slice uA ul.length uc, .slice uB us.length ud] 25)).cell? ⟨vb, 0, none⟩ = some (.int .i64 5) := HS3.out.v.cell 0
          go_upto_region 11 with fail
          obtain ⟨w6, hw6⟩ : ∃ w6, wr.alloc (.cells #[.int .i64 uk, .int .i64 ui, .string ut, .slice uA ul.length uc, .slice uB us.length ud] 25) = w6 := ⟨_, rfl⟩
          rw [hw6] at HX2 HS3 z0 ⊢
          clear hw6 z0 hxb
          have z0 : w6.cell? ⟨vb, 0, none⟩ = some (.int .i64 5) := HS3.out.v.cell 0
          have z4 : w6.cell? ⟨vb, 4, none⟩ = some (.slice xB m xd) := HS3.out.v.cell 4
          have b0 : w6.cell? ⟨xb, 0, none⟩ = some (.int .i64 uk) := HX2.out.cell 0
          have b1 : w6.cell? ⟨xb, 1, none⟩ = some (.int .i64 ui) := HX2.out.cell 1
          have b2 : w6.cell? ⟨xb, 2, none⟩ = some (.string ut) := HX2.out.cell 2
          have b3 : w6.cell? ⟨xb, 3, none⟩ = some (.slice uA ul.length uc) := HX2.out.cell 3
          have b4 : w6.cell? ⟨xb, 4, none⟩ = some (.slice uB us.length ud) := HX2.out.cell 4
          have HEq : Hid ((acc' ++ jwr (JN.mk uk ui ut uA uc ul uB ud us).v) ++ jrest false (JN.vs xl) xs (i + 1) = acc ++ (91 :: jwrs false (JN.vs xl) xs)) := hide (by
            have h2 := HSt.out
            rw [if_pos Hi0.out] at h2
            rw [show jkeyed false (xs.drop i) = [] from rfl] at h2
            rw [← h2]
            simp)
          have hcall := HWr.out W w6 B b (d - 1) acc' (JN.mk uk ui ut uA uc ul uB ud us) HUz.out HUm.out HUr.out HUi.out HS3.out.base HS3.out.le HS3.out.mod HS3.out.bld HS3.out.vars (by
            have h1 := HLn.out
            have h3 := congrArg List.length HEq.out
            simp only [List.length_append, List.length_cons, List.length_nil] at h1 h3 ⊢
            omega)
          simp only [JN.cells] at hcall
          have HCall := hide hcall
          clear hcall
          go_wp2_with fail
          refine HCall.out.mono ?_
          rintro e w9 ⟨rfl, h9, k9⟩
          have HS9 := hide (HS3.out.wrote h9 k9)
          clear h9 k9
          go_wp2_with fail
          go_roundw
          case rel => exact ⟨i + 1, _, by omega, by go_num, HS9, HEq⟩
          case measure => simp [intOf]; omega
        · have i0 : (0 : Int) < (i : Int) := by omega
          have Hi0 := hide hi0
          clear hi0
          have HLc : Hid (acc'.length + 2 ≤ 1099511627776) := hide (by
            have h1 := HLn.out
            have h2 := congrArg List.length HSt.out
            rw [if_neg Hi0.out] at h2
            simp only [List.length_append, List.length_cons, List.length_nil] at h1 h2 ⊢
            omega)
          go_wp2_with fail
          refine (wsByte HS3.out 44 44 rfl (by have := HLc.out; omega)).mono ?_
          rintro e w6 ⟨v6, rfl, hs6, k6⟩
          have HS6 := hide hs6
          have HX6 := hide (k6.blk HX2.out (by omega) (by decide))
          clear hs6 k6 hxb
          go_upto_region 11 with fail
          have z0 : w6.cell? ⟨vb, 0, none⟩ = some (.int .i64 5) := HS6.out.v.cell 0
          have z4 : w6.cell? ⟨vb, 4, none⟩ = some (.slice xB m xd) := HS6.out.v.cell 4
          have b0 : w6.cell? ⟨xb, 0, none⟩ = some (.int .i64 uk) := HX6.out.cell 0
          have b1 : w6.cell? ⟨xb, 1, none⟩ = some (.int .i64 ui) := HX6.out.cell 1
          have b2 : w6.cell? ⟨xb, 2, none⟩ = some (.string ut) := HX6.out.cell 2
          have b3 : w6.cell? ⟨xb, 3, none⟩ = some (.slice uA ul.length uc) := HX6.out.cell 3
          have b4 : w6.cell? ⟨xb, 4, none⟩ = some (.slice uB us.length ud) := HX6.out.cell 4
          have HEq : Hid (((acc' ++ [44]) ++ jwr (JN.mk uk ui ut uA uc ul uB ud us).v) ++ jrest false (JN.vs xl) xs (i + 1) = acc ++ (91 :: jwrs false (JN.vs xl) xs)) := hide (by
            have h2 := HSt.out
            rw [if_neg Hi0.out] at h2
            rw [show jkeyed false (xs.drop i) = [] from rfl] at h2
            rw [← h2]
            simp)
          have hcall := HWr.out W w6 B b (d - 1) (acc' ++ [44]) (JN.mk uk ui ut uA uc ul uB ud us) HUz.out HUm.out HUr.out HUi.out HS6.out.base HS6.out.le HS6.out.mod HS6.out.bld HS6.out.vars (by
            have h1 := HLn.out
            have h3 := congrArg List.length HEq.out
            simp only [List.length_append, List.length_cons, List.length_nil] at h1 h3 ⊢
            omega)
          simp only [JN.cells] at hcall
          have HCall := hide hcall
          clear hcall
          go_wp2_with fail
          refine HCall.out.mono ?_
          rintro e w9 ⟨rfl, h9, k9⟩
          have HS9 := hide (HS6.out.wrote h9 k9)
          clear h9 k9
          go_wp2_with fail
          go_roundw
          case rel => exact ⟨i + 1, _, by omega, by go_num, HS9, HEq⟩
          case measure => simp [intOf]; omega
      · have hin : i = n := by omega
        subst hin
        have HE2 := hide HE.out
        rw [jrest_end (by rw [JN.vs_len, HN.out]; exact Nat.le_refl _), List.append_nil] at HE2
        have HSe := hide HS2.out
        rw [HE2.out] at HSe
        go_wp2_with fail
        refine (wsByte HSe.out 93 _ rfl (by have := HLn.out; omega)).mono ?_
        rintro e w3 ⟨v, rfl, hs3, _⟩
        have HS4 := hide hs3
        clear hs3
        go_wp2_with fail
        refine ⟨rfl, _, results_none rfl _ _ _, ?_⟩
        refine ⟨rfl, ?_, HS4.out.step⟩
        have := HS4.out.bld
        simpa using this
  · subst hk
    have HRes : Hid (jwr (.mk 6 xi xt (JN.vs xl) xs) = 123 :: (jwrs true (JN.vs xl) xs ++ [125])) := hide (by rw [jwr]; rfl)
    rw [HRes.out] at hlen ⊢
    have HLn : Hid ((acc ++ (123 :: jwrs true (JN.vs xl) xs)).length + 1 ≤ 1099511627776) := hide (by simp only [List.length_append, List.length_cons, List.length_nil] at hlen ⊢; omega)
    have HMs : Hid (jmays (d - 1) (JN.vs xl) = true) := hide (jmay_parts HMay.out).2.2.2.2.2.2
    have HRs : Hid (jrngs (JN.vs xl) = true) := hide (by
      have := HRng.out
      rw [jrng, Bool.and_eq_true] at this
      exact this.2)
    have HMn : Hid (m = n) := hide (by
      have := jmay_len HMay.out rfl
      rw [JN.vs_len] at this
      have h1 := HN.out
      have h2 := HMm.out
      omega)
    obtain ⟨vb, hvb⟩ : ∃ vb, w.heap.size = vb := ⟨_, rfl⟩
    clear HRes
    go_wp2_with fail
    rw [hvb] at HS
    refine (wsByte HS.out 123 _ rfl (by omega)).mono ?_
    rintro e w2 ⟨v, rfl, hs2, _⟩
    have HS2 := hide hs2
    have q0 : w2.cell? ⟨vb, 0, none⟩ = some (.int .i64 6) := hs2.v.cell 0
    have q3 : w2.cell? ⟨vb, 3, none⟩ = some (.slice xA n xc) := hs2.v.cell 3
    clear hs2 hvb
    go_wp2_with fail
    go_loopw [19] (fun iv wr => ∃ (i : Nat) (acc' : List UInt8), i ≤ n ∧ iv = .int .i64 (i : Int) ∧ Hid (WS W w wr B b vb #[.int .i64 6, .int .i64 xi, .string xt, .slice xA n xc, .slice xB m xd] acc') ∧ Hid (acc' ++ jrest true (JN.vs xl) xs i = acc ++ (123 :: jwrs true (JN.vs xl) xs))) (fun iv _ => n - (intOf iv).toNat)
    case atStart => exact ⟨0, _, by omega, rfl, HS2, hide (by unfold jrest; rw [if_pos rfl]; simp)⟩
    case round =>
      clear HS2 q0 q3
      obtain ⟨i, acc', hi, rfl, HS2, HE⟩ := hrel
      by_cases h2 : i < n
      · obtain ⟨u, hu⟩ : ∃ u, xl[i]? = some u := ⟨_, List.getElem?_eq_getElem (by rw [HN.out]; exact h2)⟩
        have huv : (JN.vs xl)[i]? = some u.v := by rw [JN.vs_at, hu]; rfl
        obtain ⟨g, o, rfl, hg, hc⟩ := (HRow.out.new HS2.out.mod).at_ hu
        have hii : (i : Int) < n := by omega
        have a1 : IntKind.i64.wrap ((i : Int) + 1) = (i : Int) + 1 := IntWalk.i64_in _ (by omega)
        have HUz := hide (Nat.le_trans (JN.szs_at hu) HSz.out)
        have HUm := hide (jmays_at HMs.out huv)
        have HUr := hide (jrngs_at HRs.out huv)
        have HUi := hide (HIns.out.at_ hu)
        have HSt := hide HE.out
        rw [jrest_step huv] at HSt
        obtain ⟨uk, ui, ut, uA, uc, ul, uB, ud, us⟩ := u
        have y0 : wr.cell? ⟨g, o + i * 5, none⟩ = some (.int .i64 uk) := hc 0 _ rfl
        have y1 : wr.cell? ⟨g, o + i * 5 + 1, none⟩ = some (.int .i64 ui) := hc 1 _ rfl
        have y2 : wr.cell? ⟨g, o + i * 5 + 2, none⟩ = some (.string ut) := hc 2 _ rfl
        have y3 : wr.cell? ⟨g, o + i * 5 + 3, none⟩ = some (.slice uA ul.length uc) := hc 3 _ rfl
        have y4 : wr.cell? ⟨g, o + i * 5 + 4, none⟩ = some (.slice uB us.length ud) := hc 4 _ rfl
        have HX2 := hide (Blk.new wr 25 #[.int .i64 uk, .int .i64 ui, .string ut, .slice uA ul.length uc, .slice uB us.length ud])
        have HS3 := hide (HS2.out.new ((Mod.refl [] wr).alloc (.cells #[.int .i64 uk, .int .i64 ui, .string ut, .slice uA ul.length uc, .slice uB us.length ud] 25)))
        have hxb0 := HS2.out.bld.lt
        have hvx := HS2.out.v.lt
        obtain ⟨xb, hxb⟩ : ∃ xb, wr.heap.size = xb := ⟨_, rfl⟩
        rw [hxb] at HX2 hxb0 hvx
        clear hu huv hc HE
        by_cases hi0 : i = 0
        · have i0 : decide ((0 : Int) < (i : Int)) = false := decide_eq_false (by omega)
          have i0n : decide (0 < i) = false := decide_eq_false (by omega)
          have Hi0 := hide hi0
          clear hi0
          have z0 : (wr.alloc (.cells #[.int .i64 uk, .int .i64 ui, .string ut, .slice uA ul.length uc, .slice uB us.length ud] 25)).cell? ⟨vb, 0, none⟩ = some (.int .i64 6) := HS3.out.v.cell 0
          go_upto_region 11 with fail
          obtain ⟨w6, hw6⟩ : ∃ w6, wr.alloc (.cells #[.int .i64 uk, .int .i64 ui, .string ut, .slice uA ul.length uc, .slice uB us.length ud] 25) = w6 := ⟨_, rfl⟩
          rw [hw6] at HX2 HS3 z0 ⊢
          clear hw6 z0 hxb
          have z0 : w6.cell? ⟨vb, 0, none⟩ = some (.int .i64 6) := HS3.out.v.cell 0
          have z4 : w6.cell? ⟨vb, 4, none⟩ = some (.slice xB m xd) := HS3.out.v.cell 4
          obtain ⟨key, hkey⟩ : ∃ key, xs[i]? = some key := ⟨_, List.getElem?_eq_getElem (by rw [HMm.out, HMn.out]; omega)⟩
          obtain ⟨g4, o4, rfl, hg4, hc4⟩ := (HKeys.out.new HS3.out.mod).at_ hkey
          have him : (i : Int) < m := by have := HMn.out; omega
          have HKy := hide (key_at hkey)
          have HQl : Hid ((quo key.data.toList).length + 1 + acc'.length ≤ 1099511627776) := hide (by
            have h1 := HLn.out
            have h2 := HSt.out
            rw [HKy.out] at h2
            have h3 := congrArg List.length h2
            simp only [List.length_append, List.length_cons, List.length_nil] at h1 h3 ⊢
            try rw [if_pos Hi0.out] at h3
            simp at h3
            omega)
          have HQ := hide (fun w => quoted_any w key (by have := quo_len key.data.toList; have h2 := HQl.out; rw [bytes_len] at this; omega))
          unfold str at HQ
          have hsz9 : ¬ 9223372036854775807 < (quo key.data.toList).length + 1 := by have h2 := HQl.out; omega
          clear hkey
          go_wp2_with fail
          refine (HQ.out _).mono ?_
          rintro e w7 ⟨rfl, m7⟩
          have HS7 := hide (HS3.out.new m7)
          have HX7 := hide (m7.blk HX2.out (by simp))
          clear m7 HQ
          go_wp2_with fail
          rw [ba_app]
          refine (wsString HS7.out _ (quo key.data.toList ++ [58]) (by simp) (by have := HQl.out; simp only [List.length_append, List.length_cons, List.length_nil] at this ⊢; omega)).mono ?_
          rintro e w8 ⟨v8, rfl, hs8, k8⟩
          have HS8 := hide hs8
          have HX8 := hide (k8.blk HX7.out (by omega) (by decide))
          clear hs8 k8
          have b0 : w8.cell? ⟨xb, 0, none⟩ = some (.int .i64 uk) := HX8.out.cell 0
          have b1 : w8.cell? ⟨xb, 1, none⟩ = some (.int .i64 ui) := HX8.out.cell 1
          have b2 : w8.cell? ⟨xb, 2, none⟩ = some (.string ut) := HX8.out.cell 2
          have b3 : w8.cell? ⟨xb, 3, none⟩ = some (.slice uA ul.length uc) := HX8.out.cell 3
          have b4 : w8.cell? ⟨xb, 4, none⟩ = some (.slice uB us.length ud) := HX8.out.cell 4
          have HEq : Hid (((acc' ++ (quo key.data.toList ++ [58])) ++ jwr (JN.mk uk ui ut uA uc ul uB ud us).v) ++ jrest true (JN.vs xl) xs (i + 1) = acc ++ (123 :: jwrs true (JN.vs xl) xs)) := hide (by
            have h2 := HSt.out
            rw [if_pos Hi0.out] at h2
            rw [HKy.out] at h2
            rw [← h2]
            simp)
          have hcall := HWr.out W w8 B b (d - 1) (acc' ++ (quo key.data.toList ++ [58])) (JN.mk uk ui ut uA uc ul uB ud us) HUz.out HUm.out HUr.out HUi.out HS8.out.base HS8.out.le HS8.out.mod HS8.out.bld HS8.out.vars (by
            have h1 := HLn.out
            have h3 := congrArg List.length HEq.out
            simp only [List.length_append, List.length_cons, List.length_nil] at h1 h3 ⊢
            omega)
          simp only [JN.cells] at hcall
          have HCall := hide hcall
          clear hcall
          go_wp2_with fail
          refine HCall.out.mono ?_
          rintro e w9 ⟨rfl, h9, k9⟩
          have HS9 := hide (HS8.out.wrote h9 k9)
          clear h9 k9
          go_wp2_with fail
          go_roundw
          case rel => exact ⟨i + 1, _, by omega, by go_num, HS9, HEq⟩
          case measure => simp [intOf]; omega
        · have i0 : (0 : Int) < (i : Int) := by omega
          have Hi0 := hide hi0
          clear hi0
          have HLc : Hid (acc'.length + 2 ≤ 1099511627776) := hide (by
            have h1 := HLn.out
            have h2 := congrArg List.length HSt.out
            rw [if_neg Hi0.out] at h2
            simp only [List.length_append, List.length_cons, List.length_nil] at h1 h2 ⊢
            omega)
          go_wp2_with fail
          refine (wsByte HS3.out 44 44 rfl (by have := HLc.out; omega)).mono ?_
          rintro e w6 ⟨v6, rfl, hs6, k6⟩
          have HS6 := hide hs6
          have HX6 := hide (k6.blk HX2.out (by omega) (by decide))
          clear hs6 k6 hxb
          go_upto_region 11 with fail
          have z0 : w6.cell? ⟨vb, 0, none⟩ = some (.int .i64 6) := HS6.out.v.cell 0
          have z4 : w6.cell? ⟨vb, 4, none⟩ = some (.slice xB m xd) := HS6.out.v.cell 4
          obtain ⟨key, hkey⟩ : ∃ key, xs[i]? = some key := ⟨_, List.getElem?_eq_getElem (by rw [HMm.out, HMn.out]; omega)⟩
          obtain ⟨g4, o4, rfl, hg4, hc4⟩ := (HKeys.out.new HS6.out.mod).at_ hkey
          have him : (i : Int) < m := by have := HMn.out; omega
          have HKy := hide (key_at hkey)
          have HQl : Hid ((quo key.data.toList).length + 1 + (acc' ++ [44]).length ≤ 1099511627776) := hide (by
            have h1 := HLn.out
            have h2 := HSt.out
            rw [HKy.out] at h2
            have h3 := congrArg List.length h2
            simp only [List.length_append, List.length_cons, List.length_nil] at h1 h3 ⊢
            try rw [if_neg Hi0.out] at h3
            simp at h3
            omega)
          have HQ := hide (fun w => quoted_any w key (by have := quo_len key.data.toList; have h2 := HQl.out; rw [bytes_len] at this; omega))
          unfold str at HQ
          have hsz9 : ¬ 9223372036854775807 < (quo key.data.toList).length + 1 := by have h2 := HQl.out; omega
          clear hkey
          go_wp2_with fail
          refine (HQ.out _).mono ?_
          rintro e w7 ⟨rfl, m7⟩
          have HS7 := hide (HS6.out.new m7)
          have HX7 := hide (m7.blk HX6.out (by simp))
          clear m7 HQ
          go_wp2_with fail
          rw [ba_app]
          refine (wsString HS7.out _ (quo key.data.toList ++ [58]) (by simp) (by have := HQl.out; simp only [List.length_append, List.length_cons, List.length_nil] at this ⊢; omega)).mono ?_
          rintro e w8 ⟨v8, rfl, hs8, k8⟩
          have HS8 := hide hs8
          have HX8 := hide (k8.blk HX7.out (by omega) (by decide))
          clear hs8 k8
          have b0 : w8.cell? ⟨xb, 0, none⟩ = some (.int .i64 uk) := HX8.out.cell 0
          have b1 : w8.cell? ⟨xb, 1, none⟩ = some (.int .i64 ui) := HX8.out.cell 1
          have b2 : w8.cell? ⟨xb, 2, none⟩ = some (.string ut) := HX8.out.cell 2
          have b3 : w8.cell? ⟨xb, 3, none⟩ = some (.slice uA ul.length uc) := HX8.out.cell 3
          have b4 : w8.cell? ⟨xb, 4, none⟩ = some (.slice uB us.length ud) := HX8.out.cell 4
          have HEq : Hid ((((acc' ++ [44]) ++ (quo key.data.toList ++ [58])) ++ jwr (JN.mk uk ui ut uA uc ul uB ud us).v) ++ jrest true (JN.vs xl) xs (i + 1) = acc ++ (123 :: jwrs true (JN.vs xl) xs)) := hide (by
            have h2 := HSt.out
            rw [if_neg Hi0.out] at h2
            rw [HKy.out] at h2
            rw [← h2]
            simp)
          have hcall := HWr.out W w8 B b (d - 1) ((acc' ++ [44]) ++ (quo key.data.toList ++ [58])) (JN.mk uk ui ut uA uc ul uB ud us) HUz.out HUm.out HUr.out HUi.out HS8.out.base HS8.out.le HS8.out.mod HS8.out.bld HS8.out.vars (by
            have h1 := HLn.out
            have h3 := congrArg List.length HEq.out
            simp only [List.length_append, List.length_cons, List.length_nil] at h1 h3 ⊢
            omega)
          simp only [JN.cells] at hcall
          have HCall := hide hcall
          clear hcall
          go_wp2_with fail
          refine HCall.out.mono ?_
          rintro e w9 ⟨rfl, h9, k9⟩
          have HS9 := hide (HS8.out.wrote h9 k9)
          clear h9 k9
          go_wp2_with fail
          go_roundw
          case rel => exact ⟨i + 1, _, by omega, by go_num, HS9, HEq⟩
          case measure => simp [intOf]; omega
      · have hin : i = n := by omega
        subst hin
        have HE2 := hide HE.out
        rw [jrest_end (by rw [JN.vs_len, HN.out]; exact Nat.le_refl _), List.append_nil] at HE2
        have HSe := hide HS2.out
        rw [HE2.out] at HSe
        go_wp2_with fail
        refine (wsByte HSe.out 125 _ rfl (by have := HLn.out; omega)).mono ?_
        rintro e w3 ⟨v, rfl, hs3, _⟩
        have HS4 := hide hs3
        clear hs3
        go_wp2_with fail
        refine ⟨rfl, _, results_none rfl _ _ _, ?_⟩
        refine ⟨rfl, ?_, HS4.out.step⟩
        have := HS4.out.bld
        simpa using this
end Go.Proofs.YtkbpndohpkcikaaDoor
