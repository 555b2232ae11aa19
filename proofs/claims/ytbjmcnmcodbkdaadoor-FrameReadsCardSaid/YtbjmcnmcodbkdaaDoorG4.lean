/-
  Contracts and plain laws that the proofs of this seat share, part 4 of 8: FrRep, Bag, FrCid, FrWayP.
-/
import Derived.Test.YtbjmcnmcodbkdaaDoorG3
import Derived.Shelf.Strings.Repeat
import Derived.Test.YtbjmcnmcodbkdaaDoorG1
import Derived.Deep.RegionHeld3

/-
  frames: strings.Repeat of a zero byte.
-/
namespace Go.Proofs.YtbjmcnmcodbkdaaDoor
open Go.RowKit

def repRen : Go.Shelf.Ren := ⟨fun | 99 => 84 | 105 => 71 | 165 => 85 | 166 => 30 | 169 => 31 | 170 => 86 | 206 => 94 | 212 => 83 | 240 => 57 | 241 => 95 | 263 => 92 | 264 => 93 | 276 => 75 | 277 => 101 | n => n, fun | 0 => 0 | 3 => 3 | 4 => 4 | 5 => 5 | 9 => 9 | 20 => 20 | 37 => 55 | 46 => 107 | 51 => 119 | 53 => 23 | 70 => 54 | 72 => 57 | 75 => 61 | 76 => 62 | 80 => 64 | 109 => 112 | 127 => 90 | 146 => 120 | 148 => 122 | 164 => 103 | n => n, fun n => n⟩
theorem repLays : Go.Proofs.Lays.n105 Tryd.prog repRen := {
  mixed := by kernel_rfl,
  f99 := Tryd.func84.trans (congrArg some (by kernel_rfl)),
  f105 := Tryd.func71.trans (congrArg some (by kernel_rfl)),
  f165 := Tryd.func85.trans (congrArg some (by kernel_rfl)),
  f166 := Tryd.func30.trans (congrArg some (by kernel_rfl)),
  f169 := Tryd.func31.trans (congrArg some (by kernel_rfl)),
  f170 := Tryd.func86.trans (congrArg some (by kernel_rfl)),
  f206 := Tryd.func94.trans (congrArg some (by kernel_rfl)),
  f212 := Tryd.func83.trans (congrArg some (by kernel_rfl)),
  f240 := Tryd.func57.trans (congrArg some (by kernel_rfl)),
  f241 := Tryd.func95.trans (congrArg some (by kernel_rfl)),
  f263 := Tryd.func92.trans (congrArg some (by kernel_rfl)),
  f264 := Tryd.func93.trans (congrArg some (by kernel_rfl)),
  f276 := Tryd.func75.trans (congrArg some (by kernel_rfl)),
  f277 := Tryd.func101.trans (congrArg some (by kernel_rfl)),
  t0 := Tryd.underlying0,
  a0 := Tryd.isAgg0,
  z0 := Tryd.sizeOf0,
  v0 := Tryd.zeroValue0,
  t3 := Tryd.underlying3,
  a3 := Tryd.isAgg3,
  z3 := Tryd.sizeOf3,
  v3 := Tryd.zeroValue3,
  t4 := Tryd.underlying4,
  a4 := Tryd.isAgg4,
  z4 := Tryd.sizeOf4,
  v4 := Tryd.zeroValue4,
  t5 := Tryd.underlying5,
  a5 := Tryd.isAgg5,
  z5 := Tryd.sizeOf5,
  v5 := Tryd.zeroValue5,
  t9 := Tryd.underlying9,
  a9 := Tryd.isAgg9,
  z9 := Tryd.sizeOf9,
  v9 := Tryd.zeroValue9,
  t20 := Tryd.underlying20,
  a20 := Tryd.isAgg20,
  z20 := Tryd.sizeOf20,
  v20 := Tryd.zeroValue20,
  t37 := Tryd.underlying55,
  a37 := Tryd.isAgg55,
  z37 := Tryd.sizeOf55,
  v37 := Tryd.zeroValue55,
  t46 := Tryd.underlying107,
  a46 := Tryd.isAgg107,
  z46 := Tryd.sizeOf107,
  v46 := Tryd.zeroValue107,
  t51 := Tryd.underlying119,
  a51 := Tryd.isAgg119,
  z51 := Tryd.sizeOf119,
  v51 := Tryd.zeroValue119,
  t53 := Tryd.underlying23,
  a53 := Tryd.isAgg23,
  z53 := Tryd.sizeOf23,
  v53 := Tryd.zeroValue23,
  t70 := Tryd.underlying54,
  a70 := Tryd.isAgg54,
  z70 := Tryd.sizeOf54,
  v70 := Tryd.zeroValue54,
  t72 := Tryd.underlying57,
  a72 := Tryd.isAgg57,
  z72 := Tryd.sizeOf57,
  v72 := Tryd.zeroValue57,
  t75 := Tryd.underlying61,
  a75 := Tryd.isAgg61,
  z75 := Tryd.sizeOf61,
  v75 := Tryd.zeroValue61,
  t76 := Tryd.underlying62,
  a76 := Tryd.isAgg62,
  z76 := Tryd.sizeOf62,
  v76 := Tryd.zeroValue62,
  t109 := Tryd.underlying112,
  a109 := Tryd.isAgg112,
  z109 := Tryd.sizeOf112,
  v109 := Tryd.zeroValue112,
  t127 := Tryd.underlying90,
  a127 := Tryd.isAgg90,
  z127 := Tryd.sizeOf90,
  v127 := Tryd.zeroValue90,
  t146 := Tryd.underlying120,
  a146 := Tryd.isAgg120,
  z146 := Tryd.sizeOf120,
  v146 := Tryd.zeroValue120,
  t148 := Tryd.underlying122,
  a148 := Tryd.isAgg122,
  z148 := Tryd.sizeOf122,
  v148 := Tryd.zeroValue122,
  t164 := Tryd.underlying103,
  a164 := Tryd.isAgg103,
  z164 := Tryd.sizeOf103,
  v164 := Tryd.zeroValue103 }

theorem repX : Go.Proofs.Builder.Extra Tryd.prog repRen := {
  sizeBuilder := by kernel_rfl,
  liesBuilder := by kernel_rfl,
  t5 := Tryd.underlying5,
  a5 := Tryd.isAgg5,
  z5 := Tryd.sizeOf5,
  v5 := Tryd.zeroValue5,
  infoByte := by kernel_rfl,
  cellsByte := by kernel_rfl,
  sizeByte := by kernel_rfl,
  neB5 := by decide }
theorem repeatL_one (x : UInt8) : ∀ n, Lib.repeatL [x] n = List.replicate n x
  | 0 => rfl
  | n + 1 => by
    rw [List.replicate_succ, ← repeatL_one x n]
    rfl
theorem repeat0_any (w : World) (n : Nat) (hn : n ≤ 16384) :
    Calls Tryd.prog 71 #[.string ⟨#[0]⟩, .int .i64 n] w fun e w' => e = .returned (str (List.replicate n 0)) ∧ Mod [] w w' := by
  have hz : (⟨#[0]⟩ : ByteArray).size = 1 := rfl
  have hc : Calls Tryd.prog 71 #[.string ⟨#[0]⟩, .int .i64 n] w _ := Any.strings_Repeat repLays repX ⟨#[0]⟩ n w (by omega) (by rw [hz]; omega)
  refine hc.mono ?_
  rintro e w' ⟨rfl, hb⟩
  refine ⟨?_, ⟨hb.os, hb.tape, hb.output, hb.size, fun k hk _ => hb.block k hk⟩⟩
  show Ending.returned (str (Lib.repeatL [0] n)) = _
  rw [repeatL_one]
end Go.Proofs.YtbjmcnmcodbkdaaDoor

/-
  A region that draws its order: operations that may come in any order, each of which keeps an invariant (a map literal's insertions).
-/
namespace Go.Proofs.YtbjmcnmcodbkdaaDoor
open Go.RowKit

section
variable {P : Program} {ops : Array Oper} {Q : Exit → Act → World → Prop} {md : Region.Mode} {S : World → Prop}

/-- what has not come up: rem, and tail -/
def Lst (ops : Array Oper) (tail rem : List Nat) (listed : Array Bool) : Prop := listed.size = ops.size ∧ ∀ j, j < ops.size → (listed.getD j true = false ↔ (j ∈ rem ∨ j ∈ tail))

theorem Lst.same {tail rem : List Nat} {l l' : Array Bool} (h : Lst ops tail rem l) (h' : Lst ops tail rem l') : l = l' := by
  apply Array.ext
  · rw [h.1, h'.1]
  · intro i h1 h2
    have e1 := h.2 i (by rw [← h.1]; exact h1)
    have e2 := h'.2 i (by rw [← h.1]; exact h1)
    simp only [Array.getD, h1, h2, dite_true] at e1 e2
    have : (l[i] = false) ↔ (l'[i] = false) := e1.trans e2.symm
    cases hl : l[i] <;> cases hl' : l'[i] <;> simp_all

theorem take_dst {i : Nat} {oi : Oper} {v : Value} {fuel : Nat} {listed : Array Bool} {a : Act} {w : World} (d : Nat) (hi : ops[i]? = some oi) (hd : oi.dst = some d)
    (hs : Region.noSelect ops = true) (hf : Region.free md ops listed i = true) (hr : (Region.ready md ops listed).contains i = true)
    (hQ : ∀ c a w, Q (.panic c) (a.put (some d) v) w → Q (.panic c) a w) (hy : YieldsIf P ops S oi v a) (hS : S w)
    (h : wpAnyH P md ops Q S fuel (listed.setIfInBounds i true) (a.put (some d) v) w) : wpAnyH P md ops Q S (fuel + 1) listed a w :=
  wpAnyH_take hi hs hf hr (by rw [hd]; exact hQ) hy hS (by rw [hd]; exact h)

theorem wpAnyH_bag (tail : List Nat) (rem0 : List Nat) (Inv : List Nat → World → Prop) (L0 : Array Bool) (fuel0 : Nat) (a : Act)
    (hlt : ∀ i ∈ rem0, i < ops.size) (hdis : ∀ i ∈ rem0, i ∉ tail)
    (hdeps : ∀ i ∈ rem0, ∃ o, ops[i]? = some o ∧ ∀ e ∈ o.after, Region.binds md e = true → e.on < ops.size ∧ e.on ∉ rem0 ∧ e.on ∉ tail)
    (htail : ∀ j ∈ tail, ∃ o, ops[j]? = some o ∧ ((∀ i ∈ rem0, ∃ e ∈ o.after, Region.binds md e = true ∧ e.on = i) ∨ ∃ e ∈ o.after, Region.binds md e = true ∧ e.on ∈ tail ∧ e.on < ops.size))
    (hstep : ∀ rem i w, i ∈ rem → rem.Nodup → (∀ j ∈ rem, j ∈ rem0) → Inv rem w → S w → wpOp P ops Q i (fun a' w' => a' = a ∧ S w' ∧ Inv (rem.erase i) w') a w)
    (hL0 : Lst ops tail [] L0) (hend : ∀ w, Inv [] w → S w → wpAnyH P md ops Q S fuel0 L0 a w) :
    ∀ (n : Nat) (rem : List Nat) (listed : Array Bool) (w : World), rem.length = n → rem.Nodup → (∀ j ∈ rem, j ∈ rem0) → Lst ops tail rem listed → Inv rem w → S w → wpAnyH P md ops Q S (fuel0 + n) listed a w := by
  intro n
  induction n with
  | zero =>
    intro rem listed w hn _ _ hl hi hS
    obtain rfl := List.eq_nil_of_length_eq_zero hn
    rw [hl.same hL0]
    exact hend w hi hS
  | succ n ih =>
    intro rem listed w hn hnd hsub hl hi hS
    have lstF : ∀ j, j < ops.size → j ∉ rem → j ∉ tail → listed.getD j false = true := fun j hj h1 h2 => by
      have := hl.2 j hj
      have hjl : j < listed.size := by rw [hl.1]; exact hj
      simp only [Array.getD, hjl, dite_true] at this ⊢
      cases hb : listed[j] with
      | true => exact hb
      | false => rcases this.1 hb with h | h <;> contradiction
    have lstT : ∀ j, j < ops.size → (j ∈ rem ∨ j ∈ tail) → listed.getD j false = false := fun j hj h => by
      have := (hl.2 j hj).2 h
      have hjl : j < listed.size := by rw [hl.1]; exact hj
      simp only [Array.getD, hjl, dite_true] at this ⊢
      exact this
    refine ⟨fun h0 => ?_, fun i hi' => ?_⟩
    · exfalso
      cases rem with
      | nil => simp at hn
      | cons r rs =>
        have hr0 := hsub r (by simp)
        obtain ⟨o, ho, hd⟩ := hdeps r hr0
        have : r ∈ Region.ready md ops listed := mem_ready.2 ⟨(hl.2 r (hlt r hr0)).2 (.inl (by simp)), o, ho, fun e he hb => by
          obtain ⟨q1, q2, q3⟩ := hd e he hb
          exact lstF e.on q1 (fun h => q2 (hsub _ h)) q3⟩
        rw [h0] at this
        cases this
    · obtain ⟨h1, o, ho, hall⟩ := mem_ready.1 hi'
      have hio : i < ops.size := by
        rcases Nat.lt_or_ge i ops.size with h | h
        · exact h
        · rw [Array.getElem?_eq_none h] at ho; cases ho
      have him : i ∈ rem := by
        rcases (hl.2 i hio).1 h1 with h | h
        · exact h
        · exfalso
          obtain ⟨o', ho', hd⟩ := htail i h
          rw [ho] at ho'
          cases ho'
          rcases hd with hd | ⟨e, he, hb, ht, hlt'⟩
          · cases rem with
            | nil => simp at hn
            | cons r rs =>
              obtain ⟨e, he, hb, rfl⟩ := hd r (hsub r (by simp))
              have := hall e he hb
              rw [lstT _ (hlt _ (hsub _ (by simp))) (.inl (by simp))] at this
              cases this
          · have := hall e he hb
            rw [lstT _ hlt' (.inr ht)] at this
            cases this
      refine wpOp_mono (fun a' w' h => ?_) (hstep rem i w him hnd hsub hi hS)
      obtain ⟨rfl, hS', hi2⟩ := h
      refine ⟨hS', ih (rem.erase i) _ w' (by rw [List.length_erase_of_mem him]; omega) (hnd.erase i) (fun j hj => hsub j (List.mem_of_mem_erase hj)) ⟨by simp [hl.1], fun j hj => ?_⟩ hi2 hS'⟩
      have hil : i < listed.size := by rw [hl.1]; exact hio
      have hjl : j < listed.size := by rw [hl.1]; exact hj
      have e1 := hl.2 j hj
      by_cases hij : i = j
      · subst hij
        have h0 : i ∉ rem.erase i := fun h => by rw [hnd.mem_erase_iff] at h; exact h.1 rfl
        have h2 := hdis i (hsub i him)
        have h3 : (listed.setIfInBounds i true).getD i true = true := by simp [Array.getD, hil]
        rw [h3]
        simp [h0, h2]
      · rw [getD_set_ne true hij, e1, List.mem_erase_of_ne (Ne.symm hij)]
end
end Go.Proofs.YtbjmcnmcodbkdaaDoor

/-
  frames: wayOf at a new connection id.
-/
namespace Go.Proofs.YtbjmcnmcodbkdaaDoor
open Go.RowKit

theorem conv1 (sz c : Nat) (h : sz ≤ 20) (W : World) (g : Nat) (hc : W.cell? ⟨g, 0, none⟩ = some (.int .u8 (sz : Nat))) :
    (convert 55 9 (.slice (some ⟨g, 0, none⟩) 1 c)).run Tryd.prog W = .ok (.string ⟨#[UInt8.ofNat sz]⟩) W :=
  run_convert_bytes_back (P := Tryd.prog) W 55 9 5 ⟨g, 0, none⟩ c [UInt8.ofNat sz] Tryd.underlying55 Tryd.underlying5 Tryd.underlying9 (fun j hj => by
    have : j = 0 := by simpa using hj
    subst this
    rw [Addr.add_lit, Nat.zero_add, hc]
    simp [UInt8.toNat_ofNat']
    omega)

/-- the eight cells of a frame stand, and w' is w2 but for new blocks -/
def FrSd (w2 : World) (g : Nat) (A : Option Addr) (n c : Nat) (f : Fr) (w' : World) : Prop := (w'.cell? ⟨g, 0, none⟩ = some (.int .u64 (f.kind : Nat)) ∧ w'.cell? ⟨g, 1, none⟩ = some (.int .u64 (f.a : Nat)) ∧ w'.cell? ⟨g, 2, none⟩ = some (.int .u64 (f.b : Nat)) ∧ w'.cell? ⟨g, 3, none⟩ = some (.int .u64 (f.c : Nat)) ∧ w'.cell? ⟨g, 4, none⟩ = some (.bool f.fin) ∧ w'.cell? ⟨g, 5, none⟩ = some (.string f.data) ∧ w'.cell? ⟨g, 6, none⟩ = some (.string f.more) ∧ w'.cell? ⟨g, 7, none⟩ = some (.slice A n c)) ∧ Mod [] w2 w'
/-- and the byte at k -/
def FrSk (w2 : World) (g : Nat) (A : Option Addr) (n c : Nat) (f : Fr) (k sz : Nat) (w' : World) : Prop := FrSd w2 g A n c f w' ∧ w'.cell? ⟨k, 0, none⟩ = some (.int .u8 (sz : Nat))
theorem FrSd.of {w2 w' : World} {g : Nat} {t : TypeId} {A : Option Addr} {n c : Nat} {f : Fr} (hb : Blk w2 g t (fcs A n c f)) (hm : Mod [] w2 w') : FrSd w2 g A n c f w' := frS hb hm
theorem FrSk.new {w2 w' : World} {g : Nat} {t u : TypeId} {A : Option Addr} {n c sz : Nat} {f : Fr} (hb : Blk w2 g t (fcs A n c f)) (hS : FrSd w2 g A n c f w') :
    FrSk w2 g A n c f w'.heap.size sz (w'.alloc (.cells #[.int .u8 (sz : Nat)] u)) :=
  ⟨FrSd.of hb (hS.2.alloc _), (Blk.new w' u #[.int .u8 (sz : Nat)]).cell 0⟩
theorem frd_keep {P : Program} {fn : Nat} {args : Array Value} {v : Value} {w2 w' : World} {g : Nat} {t : TypeId} {A : Option Addr} {n c : Nat} {f : Fr} (hb : Blk w2 g t (fcs A n c f))
    (hc : ∀ w', Calls P fn args w' fun e w'' => e = .returned v ∧ Mod [] w' w'') (hS : FrSd w2 g A n c f w') :
    Calls P fn args w' fun e w'' => e = .returned v ∧ FrSd w2 g A n c f w'' := by
  refine (hc w').mono ?_
  rintro e w'' ⟨rfl, m⟩
  exact ⟨rfl, FrSd.of hb (hS.2.trans m (by simp))⟩
theorem frk_keep {P : Program} {fn : Nat} {args : Array Value} {v : Value} {w2 w' : World} {g k sz : Nat} {t : TypeId} {A : Option Addr} {n c : Nat} {f : Fr} (hb : Blk w2 g t (fcs A n c f))
    (hc : ∀ w', Calls P fn args w' fun e w'' => e = .returned v ∧ Mod [] w' w'') (hS : FrSk w2 g A n c f k sz w') :
    Calls P fn args w' fun e w'' => e = .returned v ∧ FrSk w2 g A n c f k sz w'' := by
  refine (hc w').mono ?_
  rintro e w'' ⟨rfl, m⟩
  exact ⟨rfl, FrSd.of hb (hS.1.2.trans m (by simp)), (m.cell (World.block_lt_of_cell? _ _ hS.2) (by simp)).trans hS.2⟩
theorem wpAnyH_stronger {P : Program} {ops : Array Oper} {Q : Exit → Act → World → Prop} {md : Region.Mode} {S S' : World → Prop} (hS : ∀ w, S' w → S w) :
    ∀ (fuel : Nat) (listed : Array Bool) (a : Act) (w : World), wpAnyH P md ops Q S' fuel listed a w → wpAnyH P md ops Q S fuel listed a w
  | 0, _, _, _, h => h
  | fuel + 1, _, _, _, h => ⟨h.1, fun i hi => wpOp_mono (fun a' w' h' => ⟨hS w' h'.1, wpAnyH_stronger hS fuel _ a' w' h'.2⟩) (h.2 i hi)⟩

set_option maxRecDepth 100000 in
set_option maxHeartbeats 1500000 in
theorem wayC_any (w : World) (A : Option Addr) (n c : Nat) (f : Fr) (hk : f.kind = 24) (hd : f.data.size ≤ 20) (hm : f.more.size = 16) :
    Calls Tryd.prog 54 #[fval A n c f] w fun e w' => e = .returned (str (fway f)) ∧ Mod [] w w' := by
  have HBx := hide (Blk.new w 26 (fcs A n c f))
  obtain ⟨K, hK⟩ : ∃ K, vputB 24 = K := ⟨_, rfl⟩
  obtain ⟨VA, hA⟩ : ∃ K, vputB f.a = K := ⟨_, rfl⟩
  obtain ⟨VB, hB⟩ : ∃ K, vputB f.b = K := ⟨_, rfl⟩
  obtain ⟨D, hD⟩ : ∃ D : ByteArray, (⟨#[UInt8.ofNat f.data.size]⟩ : ByteArray) = D := ⟨_, rfl⟩
  have s1 : K.size ≤ 8 := by rw [← hK]; exact vputB_size _
  have s2 : VA.size ≤ 8 := by rw [← hA]; exact vputB_size _
  have s3 : VB.size ≤ 8 := by rw [← hB]; exact vputB_size _
  have s4 : D.size = 1 := by rw [← hD]; rfl
  have p1 := fun w => fputB_any w 24
  have p2 := fun w => fputB_any w f.a
  have p3 := fun w => fputB_any w f.b
  rw [hK] at p1
  rw [hA] at p2
  rw [hB] at p3
  push_cast at p1
  have pp : ∀ (x : Int) (v : ByteArray), ((x = 24 ∧ v = K) ∨ (x = (f.a : Nat) ∧ v = VA) ∨ (x = (f.b : Nat) ∧ v = VB)) → ∀ w, Calls Tryd.prog 55 #[.int .u64 x] w fun e w' => e = .returned (.string v) ∧ Mod [] w w' := by
    rintro x v (⟨rfl, rfl⟩ | ⟨rfl, rfl⟩ | ⟨rfl, rfl⟩) w
    · exact p1 w
    · exact p2 w
    · exact p3 w
  have PP := hide pp
  have hcv := conv1 f.data.size 1 hd
  rw [hD] at hcv
  have hw8 : IntKind.u8.wrap ((f.data.size : Nat) : Int) = (f.data.size : Nat) := IntWalk.u8_in _ (by omega)
  have hfin : (K ++ VA ++ VB ++ D ++ f.data ++ f.more).data.toList = fway f := by
    rw [app_list, app_list, app_list, app_list, app_list, ← hK, ← hA, ← hB, ← hD]
    unfold fway
    rw [if_neg (by omega), if_neg (by omega), if_pos hk]
    unfold fcid
    simp [vputB_list]
  have HF := hide hfin
  have q1 : ¬ 9223372036854775807 < K.size + VA.size := by omega
  have q2 : ¬ 9223372036854775807 < K.size + VA.size + VB.size := by omega
  have q3 : ¬ 9223372036854775807 < K.size + VA.size + VB.size + D.size := by omega
  have q4 : ¬ 9223372036854775807 < K.size + VA.size + VB.size + D.size + f.data.size := by omega
  have q5 : ¬ 9223372036854775807 < K.size + VA.size + VB.size + D.size + f.data.size + f.more.size := by omega
  obtain ⟨R, hR⟩ : ∃ R, fway f = R := ⟨_, rfl⟩
  rw [hR] at HF ⊢
  clear hfin hK hA hB hD hR pp p1 p2 p3
  unfold fval fcs at *
  obtain ⟨fk, fa, fb, fc, ff, fd, fm, fl⟩ := f
  dsimp only at *
  subst hk
  push_cast at HBx
  clear s4 hm
  go_enter Tryd.func54, Tryd.ntmps54
  go_wp2_with fail
  obtain ⟨w2, hw2⟩ : ∃ w2, w.alloc (.cells #[.int .u64 24, .int .u64 (fa : Nat), .int .u64 (fb : Nat), .int .u64 (fc : Nat), .bool ff, .string fd, .string fm, .slice A n c] 26) = w2 := ⟨_, rfl⟩
  obtain ⟨g, hg⟩ : ∃ g, w.heap.size = g := ⟨_, rfl⟩
  have hm : Mod [] w w2 := by rw [← hw2]; exact (Mod.refl _ _).alloc _
  have HM2 := hide hm
  rw [hw2, hg] at HBx
  rw [hw2]
  simp only [hg]
  have HB2 := HBx
  have hlt := HB2.out.lt
  clear hw2 hg hm HBx
  have HS0 := FrSd.of (f := ⟨24, fa, fb, fc, ff, fd, fm, fl⟩) HB2.out (Mod.refl [] _).drew
  refine wp_region_held_drew (S := FrSd w2 g A n c ⟨24, fa, fb, fc, ff, fd, fm, fl⟩) (by kernel_rfl) HS0 (fun _ => ?_)
  refine take_dst (i := 0) (v := ?_) 20 rfl rfl (by kernel_rfl) (by kernel_rfl) (by kernel_rfl) (fun _ _ _ h => h) (Or.inl ⟨by rfl, ?_⟩) HS0 ?_
  rotate_left
  · intro w hSw
    obtain ⟨⟨p0, p1, p2, p3, p4, p5, p6, p7⟩, _⟩ := hSw
    dsimp only at p0 p1 p2 p3 p4 p5 p6 p7
    go_simp
    first | done | (with_reducible rfl)
  simp only [Act.put, List.setIfInBounds_toArray, List.set_cons_zero, List.set_cons_succ]
  refine take_dst (i := 1) (v := ?_) 21 rfl rfl (by kernel_rfl) (by kernel_rfl) (by kernel_rfl) (fun _ _ _ h => h) (Or.inl ⟨by rfl, ?_⟩) HS0 ?_
  rotate_left
  · intro w hSw
    obtain ⟨⟨p0, p1, p2, p3, p4, p5, p6, p7⟩, _⟩ := hSw
    dsimp only at p0 p1 p2 p3 p4 p5 p6 p7
    go_simp
    first | done | (with_reducible rfl)
  simp only [Act.put, List.setIfInBounds_toArray, List.set_cons_zero, List.set_cons_succ]
  refine take_dst (i := 3) (v := ?_) 23 rfl rfl (by kernel_rfl) (by kernel_rfl) (by kernel_rfl) (fun _ _ _ h => h) (Or.inl ⟨by rfl, ?_⟩) HS0 ?_
  rotate_left
  · intro w hSw
    obtain ⟨⟨p0, p1, p2, p3, p4, p5, p6, p7⟩, _⟩ := hSw
    dsimp only at p0 p1 p2 p3 p4 p5 p6 p7
    go_simp
    first | done | (with_reducible rfl)
  simp only [Act.put, List.setIfInBounds_toArray, List.set_cons_zero, List.set_cons_succ]
  refine take_dst (i := 4) (v := ?_) 24 rfl rfl (by kernel_rfl) (by kernel_rfl) (by kernel_rfl) (fun _ _ _ h => h) (Or.inl ⟨by rfl, ?_⟩) HS0 ?_
  rotate_left
  · intro w hSw
    obtain ⟨⟨p0, p1, p2, p3, p4, p5, p6, p7⟩, _⟩ := hSw
    dsimp only at p0 p1 p2 p3 p4 p5 p6 p7
    go_simp
    first | done | (with_reducible rfl)
  simp only [Act.put, List.setIfInBounds_toArray, List.set_cons_zero, List.set_cons_succ]
  refine take_dst (i := 7) (v := ?_) 27 rfl rfl (by kernel_rfl) (by kernel_rfl) (by kernel_rfl) (fun _ _ _ h => h) (Or.inl ⟨by rfl, ?_⟩) HS0 ?_
  rotate_left
  · intro w hSw
    obtain ⟨⟨p0, p1, p2, p3, p4, p5, p6, p7⟩, _⟩ := hSw
    dsimp only at p0 p1 p2 p3 p4 p5 p6 p7
    go_simp
    first | done | (with_reducible rfl)
  simp only [Act.put, List.setIfInBounds_toArray, List.set_cons_zero, List.set_cons_succ]
  refine take_dst (i := 8) (v := ?_) 28 rfl rfl (by kernel_rfl) (by kernel_rfl) (by kernel_rfl) (fun _ _ _ h => h) (Or.inl ⟨by rfl, ?_⟩) HS0 ?_
  rotate_left
  · intro w hSw
    obtain ⟨⟨p0, p1, p2, p3, p4, p5, p6, p7⟩, _⟩ := hSw
    dsimp only at p0 p1 p2 p3 p4 p5 p6 p7
    go_simp
    first | done | (with_reducible rfl)
  simp only [Act.put, List.setIfInBounds_toArray, List.set_cons_zero, List.set_cons_succ]
  refine take_dst (i := 11) (v := ?_) 31 rfl rfl (by kernel_rfl) (by kernel_rfl) (by kernel_rfl) (fun _ _ _ h => h) (Or.inl ⟨by rfl, ?_⟩) HS0 ?_
  rotate_left
  · intro w hSw
    obtain ⟨⟨p0, p1, p2, p3, p4, p5, p6, p7⟩, _⟩ := hSw
    dsimp only at p0 p1 p2 p3 p4 p5 p6 p7
    go_simp
    first | done | (with_reducible rfl)
  simp only [Act.put, List.setIfInBounds_toArray, List.set_cons_zero, List.set_cons_succ]
  refine take_dst (i := 12) (v := ?_) 32 rfl rfl (by kernel_rfl) (by kernel_rfl) (by kernel_rfl) (fun _ _ _ h => h) (Or.inl ⟨by rfl, ?_⟩) HS0 ?_
  rotate_left
  · intro w hSw
    obtain ⟨⟨p0, p1, p2, p3, p4, p5, p6, p7⟩, _⟩ := hSw
    dsimp only at p0 p1 p2 p3 p4 p5 p6 p7
    go_simp
    first | done | (with_reducible rfl)
  simp only [Act.put, List.setIfInBounds_toArray, List.set_cons_zero, List.set_cons_succ]
  refine take_dst (i := 13) (v := ?_) 33 rfl rfl (by kernel_rfl) (by kernel_rfl) (by kernel_rfl) (fun _ _ _ h => h) (Or.inl ⟨by rfl, ?_⟩) HS0 ?_
  rotate_left
  · intro w hSw
    obtain ⟨⟨p0, p1, p2, p3, p4, p5, p6, p7⟩, _⟩ := hSw
    dsimp only at p0 p1 p2 p3 p4 p5 p6 p7
    go_simp
    first | done | (with_reducible rfl)
  simp only [Act.put, List.setIfInBounds_toArray, List.set_cons_zero, List.set_cons_succ]
  refine take_dst (i := 14) (v := ?_) 34 rfl rfl (by kernel_rfl) (by kernel_rfl) (by kernel_rfl) (fun _ _ _ h => h) (Or.inl ⟨by rfl, ?_⟩) HS0 ?_
  rotate_left
  · intro w hSw
    obtain ⟨⟨p0, p1, p2, p3, p4, p5, p6, p7⟩, _⟩ := hSw
    dsimp only at p0 p1 p2 p3 p4 p5 p6 p7
    go_simp
    first | done | (with_reducible rfl)
  simp only [Act.put, List.setIfInBounds_toArray, List.set_cons_zero, List.set_cons_succ]
  refine take_dst (i := 18) (v := ?_) 38 rfl rfl (by kernel_rfl) (by kernel_rfl) (by kernel_rfl) (fun _ _ _ h => h) (Or.inl ⟨by rfl, ?_⟩) HS0 ?_
  rotate_left
  · intro w hSw
    obtain ⟨⟨p0, p1, p2, p3, p4, p5, p6, p7⟩, _⟩ := hSw
    dsimp only at p0 p1 p2 p3 p4 p5 p6 p7
    go_simp
    first | done | (with_reducible rfl)
  simp only [Act.put, List.setIfInBounds_toArray, List.set_cons_zero, List.set_cons_succ]
  refine take_dst (i := 19) (v := ?_) 39 rfl rfl (by kernel_rfl) (by kernel_rfl) (by kernel_rfl) (fun _ _ _ h => h) (Or.inl ⟨by rfl, ?_⟩) HS0 ?_
  rotate_left
  · intro w hSw
    obtain ⟨⟨p0, p1, p2, p3, p4, p5, p6, p7⟩, _⟩ := hSw
    dsimp only at p0 p1 p2 p3 p4 p5 p6 p7
    go_simp
    first | done | (with_reducible rfl)
  simp only [Act.put, List.setIfInBounds_toArray, List.set_cons_zero, List.set_cons_succ]
  refine take_dst (i := 21) (v := ?_) 41 rfl rfl (by kernel_rfl) (by kernel_rfl) (by kernel_rfl) (fun _ _ _ h => h) (Or.inl ⟨by rfl, ?_⟩) HS0 ?_
  rotate_left
  · intro w hSw
    obtain ⟨⟨p0, p1, p2, p3, p4, p5, p6, p7⟩, _⟩ := hSw
    dsimp only at p0 p1 p2 p3 p4 p5 p6 p7
    go_simp
    first | done | (with_reducible rfl)
  simp only [Act.put, List.setIfInBounds_toArray, List.set_cons_zero, List.set_cons_succ]
  refine take_dst (i := 22) (v := ?_) 42 rfl rfl (by kernel_rfl) (by kernel_rfl) (by kernel_rfl) (fun _ _ _ h => h) (Or.inl ⟨by rfl, ?_⟩) HS0 ?_
  rotate_left
  · intro w hSw
    obtain ⟨⟨p0, p1, p2, p3, p4, p5, p6, p7⟩, _⟩ := hSw
    dsimp only at p0 p1 p2 p3 p4 p5 p6 p7
    go_simp
    first | done | (with_reducible rfl)
  simp only [Act.put, List.setIfInBounds_toArray, List.set_cons_zero, List.set_cons_succ]
  refine wpAnyH_ready (rs := [2, 15]) (by kernel_rfl) (by simp) ?_
  refine AllReadyH.cons rfl (fun K hK => ?_) (AllReadyH.cons rfl (fun K hK => ?_) AllReadyH.nil)
  · go_simp
    go_at_call 55
    refine (frd_keep (f := ⟨24, fa, fb, fc, ff, fd, fm, fl⟩) HB2.out (PP.out _ _ (by first | exact Or.inl ⟨rfl, rfl⟩ | exact Or.inr (Or.inl ⟨rfl, rfl⟩) | exact Or.inr (Or.inr ⟨rfl, rfl⟩))) HS0).mono ?_
    rintro e v1 ⟨rfl, hSv1⟩
    go_wp2_with fail
    refine hK.out _ _ hSv1 (fun _ => ?_)
    clear hK K
    try simp only [Act.put, List.setIfInBounds_toArray, List.set_cons_zero, List.set_cons_succ]
    refine wpAnyH_ready (rs := [5, 15]) (by kernel_rfl) (by simp) ?_
    refine AllReadyH.cons rfl (fun K hK => ?_) (AllReadyH.cons rfl (fun K hK => ?_) AllReadyH.nil)
    · go_simp
      go_at_call 55
      refine (frd_keep (f := ⟨24, fa, fb, fc, ff, fd, fm, fl⟩) HB2.out (PP.out _ _ (by first | exact Or.inl ⟨rfl, rfl⟩ | exact Or.inr (Or.inl ⟨rfl, rfl⟩) | exact Or.inr (Or.inr ⟨rfl, rfl⟩))) hSv1).mono ?_
      rintro e v2 ⟨rfl, hSv2⟩
      go_wp2_with fail
      refine hK.out _ _ hSv2 (fun _ => ?_)
      clear hK K
      try simp only [Act.put, List.setIfInBounds_toArray, List.set_cons_zero, List.set_cons_succ]
      refine take_dst (i := 6) (v := ?_) 26 rfl rfl (by kernel_rfl) (by kernel_rfl) (by kernel_rfl) (fun _ _ _ h => h) (Or.inl ⟨by rfl, ?_⟩) hSv2 ?_
      rotate_left
      · intro w hSw
        obtain ⟨⟨p0, p1, p2, p3, p4, p5, p6, p7⟩, _⟩ := hSw
        dsimp only at p0 p1 p2 p3 p4 p5 p6 p7
        go_simp
        first | done | (with_reducible rfl)
      simp only [Act.put, List.setIfInBounds_toArray, List.set_cons_zero, List.set_cons_succ]
      refine wpAnyH_ready (rs := [9, 15]) (by kernel_rfl) (by simp) ?_
      refine AllReadyH.cons rfl (fun K hK => ?_) (AllReadyH.cons rfl (fun K hK => ?_) AllReadyH.nil)
      · go_simp
        go_at_call 55
        refine (frd_keep (f := ⟨24, fa, fb, fc, ff, fd, fm, fl⟩) HB2.out (PP.out _ _ (by first | exact Or.inl ⟨rfl, rfl⟩ | exact Or.inr (Or.inl ⟨rfl, rfl⟩) | exact Or.inr (Or.inr ⟨rfl, rfl⟩))) hSv2).mono ?_
        rintro e v3 ⟨rfl, hSv3⟩
        go_wp2_with fail
        refine hK.out _ _ hSv3 (fun _ => ?_)
        clear hK K
        try simp only [Act.put, List.setIfInBounds_toArray, List.set_cons_zero, List.set_cons_succ]
        refine take_dst (i := 10) (v := ?_) 30 rfl rfl (by kernel_rfl) (by kernel_rfl) (by kernel_rfl) (fun _ _ _ h => h) (Or.inl ⟨by rfl, ?_⟩) hSv3 ?_
        rotate_left
        · intro w hSw
          obtain ⟨⟨p0, p1, p2, p3, p4, p5, p6, p7⟩, _⟩ := hSw
          dsimp only at p0 p1 p2 p3 p4 p5 p6 p7
          go_simp
          first | done | (with_reducible rfl)
        simp only [Act.put, List.setIfInBounds_toArray, List.set_cons_zero, List.set_cons_succ]
        refine wpAnyH_ready (rs := [15]) (by kernel_rfl) (by simp) ?_
        refine AllReadyH.cons rfl (fun K hK => ?_) AllReadyH.nil
        go_simp
        have hT4 := FrSk.new (u := 5) (sz := fd.size) (f := ⟨24, fa, fb, fc, ff, fd, fm, fl⟩) HB2.out hSv3
        refine hK.out _ _ hT4.1 (fun _ => ?_)
        clear hK K
        try simp only [Act.put, List.setIfInBounds_toArray, List.set_cons_zero, List.set_cons_succ]
        refine wpAnyH_stronger (fun _ h => h.1) _ _ _ _ (?_ : wpAnyH _ _ _ _ (FrSk w2 g A n c ⟨24, fa, fb, fc, ff, fd, fm, fl⟩ v3.heap.size fd.size) _ _ _ _)
        refine take_dst (i := 16) (v := ?_) 36 rfl rfl (by kernel_rfl) (by kernel_rfl) (by kernel_rfl) (fun _ _ _ h => h) (Or.inl ⟨by rfl, ?_⟩) hT4 ?_
        rotate_left
        · intro w hSw
          obtain ⟨⟨p0, p1, p2, p3, p4, p5, p6, p7⟩, _⟩ := hSw.1
          dsimp only at p0 p1 p2 p3 p4 p5 p6 p7
          have hz := hSw.2
          go_simp
          first | done | (with_reducible rfl)
        simp only [Act.put, List.setIfInBounds_toArray, List.set_cons_zero, List.set_cons_succ]
        refine take_dst (i := 17) (v := ?_) 37 rfl rfl (by kernel_rfl) (by kernel_rfl) (by kernel_rfl) (fun _ _ _ h => h) (Or.inl ⟨by rfl, ?_⟩) hT4 ?_
        rotate_left
        · intro w hSw
          obtain ⟨⟨p0, p1, p2, p3, p4, p5, p6, p7⟩, _⟩ := hSw.1
          dsimp only at p0 p1 p2 p3 p4 p5 p6 p7
          have hz := hSw.2
          go_simp
          first | done | (with_reducible rfl)
        simp only [Act.put, List.setIfInBounds_toArray, List.set_cons_zero, List.set_cons_succ]
        refine take_dst (i := 20) (v := ?_) 40 rfl rfl (by kernel_rfl) (by kernel_rfl) (by kernel_rfl) (fun _ _ _ h => h) (Or.inl ⟨by rfl, ?_⟩) hT4 ?_
        rotate_left
        · intro w hSw
          obtain ⟨⟨p0, p1, p2, p3, p4, p5, p6, p7⟩, _⟩ := hSw.1
          dsimp only at p0 p1 p2 p3 p4 p5 p6 p7
          have hz := hSw.2
          go_simp
          first | done | (with_reducible rfl)
        simp only [Act.put, List.setIfInBounds_toArray, List.set_cons_zero, List.set_cons_succ]
        refine take_dst (i := 23) (v := ?_) 43 rfl rfl (by kernel_rfl) (by kernel_rfl) (by kernel_rfl) (fun _ _ _ h => h) (Or.inl ⟨by rfl, ?_⟩) hT4 ?_
        rotate_left
        · intro w hSw
          obtain ⟨⟨p0, p1, p2, p3, p4, p5, p6, p7⟩, _⟩ := hSw.1
          dsimp only at p0 p1 p2 p3 p4 p5 p6 p7
          have hz := hSw.2
          go_simp
          first | done | (with_reducible rfl)
        simp only [Act.put, List.setIfInBounds_toArray, List.set_cons_zero, List.set_cons_succ]
        refine take_dst (i := 24) (v := ?_) 2 rfl rfl (by kernel_rfl) (by kernel_rfl) (by kernel_rfl) (fun _ _ _ h => h) (Or.inl ⟨by rfl, ?_⟩) hT4 ?_
        rotate_left
        · intro w hSw
          obtain ⟨⟨p0, p1, p2, p3, p4, p5, p6, p7⟩, _⟩ := hSw.1
          dsimp only at p0 p1 p2 p3 p4 p5 p6 p7
          have hz := hSw.2
          go_simp
          first | done | (with_reducible rfl)
        simp only [Act.put, List.setIfInBounds_toArray, List.set_cons_zero, List.set_cons_succ]
        refine wpAnyH_done (by kernel_rfl) ?_ _
        go_wp2_with fail
        go_ret
        exact ⟨congrArg _ (str_of HF.out), HM2.out.trans hT4.1.2 (by simp)⟩
      · go_simp
        have hT5 := FrSk.new (u := 5) (sz := fd.size) (f := ⟨24, fa, fb, fc, ff, fd, fm, fl⟩) HB2.out hSv2
        refine hK.out _ _ hT5.1 (fun _ => ?_)
        clear hK K
        try simp only [Act.put, List.setIfInBounds_toArray, List.set_cons_zero, List.set_cons_succ]
        refine wpAnyH_stronger (fun _ h => h.1) _ _ _ _ (?_ : wpAnyH _ _ _ _ (FrSk w2 g A n c ⟨24, fa, fb, fc, ff, fd, fm, fl⟩ v2.heap.size fd.size) _ _ _ _)
        refine take_dst (i := 16) (v := ?_) 36 rfl rfl (by kernel_rfl) (by kernel_rfl) (by kernel_rfl) (fun _ _ _ h => h) (Or.inl ⟨by rfl, ?_⟩) hT5 ?_
        rotate_left
        · intro w hSw
          obtain ⟨⟨p0, p1, p2, p3, p4, p5, p6, p7⟩, _⟩ := hSw.1
          dsimp only at p0 p1 p2 p3 p4 p5 p6 p7
          have hz := hSw.2
          go_simp
          first | done | (with_reducible rfl)
        simp only [Act.put, List.setIfInBounds_toArray, List.set_cons_zero, List.set_cons_succ]
        refine wpAnyH_ready (rs := [9]) (by kernel_rfl) (by simp) ?_
        refine AllReadyH.cons rfl (fun K hK => ?_) AllReadyH.nil
        go_simp
        go_at_call 55
        refine (frk_keep (f := ⟨24, fa, fb, fc, ff, fd, fm, fl⟩) HB2.out (PP.out _ _ (by first | exact Or.inl ⟨rfl, rfl⟩ | exact Or.inr (Or.inl ⟨rfl, rfl⟩) | exact Or.inr (Or.inr ⟨rfl, rfl⟩))) hT5).mono ?_
        rintro e v6 ⟨rfl, hSv6⟩
        go_wp2_with fail
        refine hK.out _ _ hSv6 (fun _ => ?_)
        clear hK K
        try simp only [Act.put, List.setIfInBounds_toArray, List.set_cons_zero, List.set_cons_succ]
        refine take_dst (i := 10) (v := ?_) 30 rfl rfl (by kernel_rfl) (by kernel_rfl) (by kernel_rfl) (fun _ _ _ h => h) (Or.inl ⟨by rfl, ?_⟩) hSv6 ?_
        rotate_left
        · intro w hSw
          obtain ⟨⟨p0, p1, p2, p3, p4, p5, p6, p7⟩, _⟩ := hSw.1
          dsimp only at p0 p1 p2 p3 p4 p5 p6 p7
          have hz := hSw.2
          go_simp
          first | done | (with_reducible rfl)
        simp only [Act.put, List.setIfInBounds_toArray, List.set_cons_zero, List.set_cons_succ]
        refine take_dst (i := 17) (v := ?_) 37 rfl rfl (by kernel_rfl) (by kernel_rfl) (by kernel_rfl) (fun _ _ _ h => h) (Or.inl ⟨by rfl, ?_⟩) hSv6 ?_
        rotate_left
        · intro w hSw
          obtain ⟨⟨p0, p1, p2, p3, p4, p5, p6, p7⟩, _⟩ := hSw.1
          dsimp only at p0 p1 p2 p3 p4 p5 p6 p7
          have hz := hSw.2
          go_simp
          first | done | (with_reducible rfl)
        simp only [Act.put, List.setIfInBounds_toArray, List.set_cons_zero, List.set_cons_succ]
        refine take_dst (i := 20) (v := ?_) 40 rfl rfl (by kernel_rfl) (by kernel_rfl) (by kernel_rfl) (fun _ _ _ h => h) (Or.inl ⟨by rfl, ?_⟩) hSv6 ?_
        rotate_left
        · intro w hSw
          obtain ⟨⟨p0, p1, p2, p3, p4, p5, p6, p7⟩, _⟩ := hSw.1
          dsimp only at p0 p1 p2 p3 p4 p5 p6 p7
          have hz := hSw.2
          go_simp
          first | done | (with_reducible rfl)
        simp only [Act.put, List.setIfInBounds_toArray, List.set_cons_zero, List.set_cons_succ]
        refine take_dst (i := 23) (v := ?_) 43 rfl rfl (by kernel_rfl) (by kernel_rfl) (by kernel_rfl) (fun _ _ _ h => h) (Or.inl ⟨by rfl, ?_⟩) hSv6 ?_
        rotate_left
        · intro w hSw
          obtain ⟨⟨p0, p1, p2, p3, p4, p5, p6, p7⟩, _⟩ := hSw.1
          dsimp only at p0 p1 p2 p3 p4 p5 p6 p7
          have hz := hSw.2
          go_simp
          first | done | (with_reducible rfl)
        simp only [Act.put, List.setIfInBounds_toArray, List.set_cons_zero, List.set_cons_succ]
        refine take_dst (i := 24) (v := ?_) 2 rfl rfl (by kernel_rfl) (by kernel_rfl) (by kernel_rfl) (fun _ _ _ h => h) (Or.inl ⟨by rfl, ?_⟩) hSv6 ?_
        rotate_left
        · intro w hSw
          obtain ⟨⟨p0, p1, p2, p3, p4, p5, p6, p7⟩, _⟩ := hSw.1
          dsimp only at p0 p1 p2 p3 p4 p5 p6 p7
          have hz := hSw.2
          go_simp
          first | done | (with_reducible rfl)
        simp only [Act.put, List.setIfInBounds_toArray, List.set_cons_zero, List.set_cons_succ]
        refine wpAnyH_done (by kernel_rfl) ?_ _
        go_wp2_with fail
        go_ret
        exact ⟨congrArg _ (str_of HF.out), HM2.out.trans hSv6.1.2 (by simp)⟩
    · go_simp
      have hT7 := FrSk.new (u := 5) (sz := fd.size) (f := ⟨24, fa, fb, fc, ff, fd, fm, fl⟩) HB2.out hSv1
      refine hK.out _ _ hT7.1 (fun _ => ?_)
      clear hK K
      try simp only [Act.put, List.setIfInBounds_toArray, List.set_cons_zero, List.set_cons_succ]
      refine wpAnyH_stronger (fun _ h => h.1) _ _ _ _ (?_ : wpAnyH _ _ _ _ (FrSk w2 g A n c ⟨24, fa, fb, fc, ff, fd, fm, fl⟩ v1.heap.size fd.size) _ _ _ _)
      refine take_dst (i := 16) (v := ?_) 36 rfl rfl (by kernel_rfl) (by kernel_rfl) (by kernel_rfl) (fun _ _ _ h => h) (Or.inl ⟨by rfl, ?_⟩) hT7 ?_
      rotate_left
      · intro w hSw
        obtain ⟨⟨p0, p1, p2, p3, p4, p5, p6, p7⟩, _⟩ := hSw.1
        dsimp only at p0 p1 p2 p3 p4 p5 p6 p7
        have hz := hSw.2
        go_simp
        first | done | (with_reducible rfl)
      simp only [Act.put, List.setIfInBounds_toArray, List.set_cons_zero, List.set_cons_succ]
      refine wpAnyH_ready (rs := [5]) (by kernel_rfl) (by simp) ?_
      refine AllReadyH.cons rfl (fun K hK => ?_) AllReadyH.nil
      go_simp
      go_at_call 55
      refine (frk_keep (f := ⟨24, fa, fb, fc, ff, fd, fm, fl⟩) HB2.out (PP.out _ _ (by first | exact Or.inl ⟨rfl, rfl⟩ | exact Or.inr (Or.inl ⟨rfl, rfl⟩) | exact Or.inr (Or.inr ⟨rfl, rfl⟩))) hT7).mono ?_
      rintro e v8 ⟨rfl, hSv8⟩
      go_wp2_with fail
      refine hK.out _ _ hSv8 (fun _ => ?_)
      clear hK K
      try simp only [Act.put, List.setIfInBounds_toArray, List.set_cons_zero, List.set_cons_succ]
      refine take_dst (i := 6) (v := ?_) 26 rfl rfl (by kernel_rfl) (by kernel_rfl) (by kernel_rfl) (fun _ _ _ h => h) (Or.inl ⟨by rfl, ?_⟩) hSv8 ?_
      rotate_left
      · intro w hSw
        obtain ⟨⟨p0, p1, p2, p3, p4, p5, p6, p7⟩, _⟩ := hSw.1
        dsimp only at p0 p1 p2 p3 p4 p5 p6 p7
        have hz := hSw.2
        go_simp
        first | done | (with_reducible rfl)
      simp only [Act.put, List.setIfInBounds_toArray, List.set_cons_zero, List.set_cons_succ]
      refine wpAnyH_ready (rs := [9]) (by kernel_rfl) (by simp) ?_
      refine AllReadyH.cons rfl (fun K hK => ?_) AllReadyH.nil
      go_simp
      go_at_call 55
      refine (frk_keep (f := ⟨24, fa, fb, fc, ff, fd, fm, fl⟩) HB2.out (PP.out _ _ (by first | exact Or.inl ⟨rfl, rfl⟩ | exact Or.inr (Or.inl ⟨rfl, rfl⟩) | exact Or.inr (Or.inr ⟨rfl, rfl⟩))) hSv8).mono ?_
      rintro e v9 ⟨rfl, hSv9⟩
      go_wp2_with fail
      refine hK.out _ _ hSv9 (fun _ => ?_)
      clear hK K
      try simp only [Act.put, List.setIfInBounds_toArray, List.set_cons_zero, List.set_cons_succ]
      refine take_dst (i := 10) (v := ?_) 30 rfl rfl (by kernel_rfl) (by kernel_rfl) (by kernel_rfl) (fun _ _ _ h => h) (Or.inl ⟨by rfl, ?_⟩) hSv9 ?_
      rotate_left
      · intro w hSw
        obtain ⟨⟨p0, p1, p2, p3, p4, p5, p6, p7⟩, _⟩ := hSw.1
        dsimp only at p0 p1 p2 p3 p4 p5 p6 p7
        have hz := hSw.2
        go_simp
        first | done | (with_reducible rfl)
      simp only [Act.put, List.setIfInBounds_toArray, List.set_cons_zero, List.set_cons_succ]
      refine take_dst (i := 17) (v := ?_) 37 rfl rfl (by kernel_rfl) (by kernel_rfl) (by kernel_rfl) (fun _ _ _ h => h) (Or.inl ⟨by rfl, ?_⟩) hSv9 ?_
      rotate_left
      · intro w hSw
        obtain ⟨⟨p0, p1, p2, p3, p4, p5, p6, p7⟩, _⟩ := hSw.1
        dsimp only at p0 p1 p2 p3 p4 p5 p6 p7
        have hz := hSw.2
        go_simp
        first | done | (with_reducible rfl)
      simp only [Act.put, List.setIfInBounds_toArray, List.set_cons_zero, List.set_cons_succ]
      refine take_dst (i := 20) (v := ?_) 40 rfl rfl (by kernel_rfl) (by kernel_rfl) (by kernel_rfl) (fun _ _ _ h => h) (Or.inl ⟨by rfl, ?_⟩) hSv9 ?_
      rotate_left
      · intro w hSw
        obtain ⟨⟨p0, p1, p2, p3, p4, p5, p6, p7⟩, _⟩ := hSw.1
        dsimp only at p0 p1 p2 p3 p4 p5 p6 p7
        have hz := hSw.2
        go_simp
        first | done | (with_reducible rfl)
      simp only [Act.put, List.setIfInBounds_toArray, List.set_cons_zero, List.set_cons_succ]
      refine take_dst (i := 23) (v := ?_) 43 rfl rfl (by kernel_rfl) (by kernel_rfl) (by kernel_rfl) (fun _ _ _ h => h) (Or.inl ⟨by rfl, ?_⟩) hSv9 ?_
      rotate_left
      · intro w hSw
        obtain ⟨⟨p0, p1, p2, p3, p4, p5, p6, p7⟩, _⟩ := hSw.1
        dsimp only at p0 p1 p2 p3 p4 p5 p6 p7
        have hz := hSw.2
        go_simp
        first | done | (with_reducible rfl)
      simp only [Act.put, List.setIfInBounds_toArray, List.set_cons_zero, List.set_cons_succ]
      refine take_dst (i := 24) (v := ?_) 2 rfl rfl (by kernel_rfl) (by kernel_rfl) (by kernel_rfl) (fun _ _ _ h => h) (Or.inl ⟨by rfl, ?_⟩) hSv9 ?_
      rotate_left
      · intro w hSw
        obtain ⟨⟨p0, p1, p2, p3, p4, p5, p6, p7⟩, _⟩ := hSw.1
        dsimp only at p0 p1 p2 p3 p4 p5 p6 p7
        have hz := hSw.2
        go_simp
        first | done | (with_reducible rfl)
      simp only [Act.put, List.setIfInBounds_toArray, List.set_cons_zero, List.set_cons_succ]
      refine wpAnyH_done (by kernel_rfl) ?_ _
      go_wp2_with fail
      go_ret
      exact ⟨congrArg _ (str_of HF.out), HM2.out.trans hSv9.1.2 (by simp)⟩
  · go_simp
    have hT10 := FrSk.new (u := 5) (sz := fd.size) (f := ⟨24, fa, fb, fc, ff, fd, fm, fl⟩) HB2.out HS0
    refine hK.out _ _ hT10.1 (fun _ => ?_)
    clear hK K
    try simp only [Act.put, List.setIfInBounds_toArray, List.set_cons_zero, List.set_cons_succ]
    refine wpAnyH_stronger (fun _ h => h.1) _ _ _ _ (?_ : wpAnyH _ _ _ _ (FrSk w2 g A n c ⟨24, fa, fb, fc, ff, fd, fm, fl⟩ w2.heap.size fd.size) _ _ _ _)
    refine take_dst (i := 16) (v := ?_) 36 rfl rfl (by kernel_rfl) (by kernel_rfl) (by kernel_rfl) (fun _ _ _ h => h) (Or.inl ⟨by rfl, ?_⟩) hT10 ?_
    rotate_left
    · intro w hSw
      obtain ⟨⟨p0, p1, p2, p3, p4, p5, p6, p7⟩, _⟩ := hSw.1
      dsimp only at p0 p1 p2 p3 p4 p5 p6 p7
      have hz := hSw.2
      go_simp
      first | done | (with_reducible rfl)
    simp only [Act.put, List.setIfInBounds_toArray, List.set_cons_zero, List.set_cons_succ]
    refine wpAnyH_ready (rs := [2]) (by kernel_rfl) (by simp) ?_
    refine AllReadyH.cons rfl (fun K hK => ?_) AllReadyH.nil
    go_simp
    go_at_call 55
    refine (frk_keep (f := ⟨24, fa, fb, fc, ff, fd, fm, fl⟩) HB2.out (PP.out _ _ (by first | exact Or.inl ⟨rfl, rfl⟩ | exact Or.inr (Or.inl ⟨rfl, rfl⟩) | exact Or.inr (Or.inr ⟨rfl, rfl⟩))) hT10).mono ?_
    rintro e v11 ⟨rfl, hSv11⟩
    go_wp2_with fail
    refine hK.out _ _ hSv11 (fun _ => ?_)
    clear hK K
    try simp only [Act.put, List.setIfInBounds_toArray, List.set_cons_zero, List.set_cons_succ]
    refine wpAnyH_ready (rs := [5]) (by kernel_rfl) (by simp) ?_
    refine AllReadyH.cons rfl (fun K hK => ?_) AllReadyH.nil
    go_simp
    go_at_call 55
    refine (frk_keep (f := ⟨24, fa, fb, fc, ff, fd, fm, fl⟩) HB2.out (PP.out _ _ (by first | exact Or.inl ⟨rfl, rfl⟩ | exact Or.inr (Or.inl ⟨rfl, rfl⟩) | exact Or.inr (Or.inr ⟨rfl, rfl⟩))) hSv11).mono ?_
    rintro e v12 ⟨rfl, hSv12⟩
    go_wp2_with fail
    refine hK.out _ _ hSv12 (fun _ => ?_)
    clear hK K
    try simp only [Act.put, List.setIfInBounds_toArray, List.set_cons_zero, List.set_cons_succ]
    refine take_dst (i := 6) (v := ?_) 26 rfl rfl (by kernel_rfl) (by kernel_rfl) (by kernel_rfl) (fun _ _ _ h => h) (Or.inl ⟨by rfl, ?_⟩) hSv12 ?_
    rotate_left
    · intro w hSw
      obtain ⟨⟨p0, p1, p2, p3, p4, p5, p6, p7⟩, _⟩ := hSw.1
      dsimp only at p0 p1 p2 p3 p4 p5 p6 p7
      have hz := hSw.2
      go_simp
      first | done | (with_reducible rfl)
    simp only [Act.put, List.setIfInBounds_toArray, List.set_cons_zero, List.set_cons_succ]
    refine wpAnyH_ready (rs := [9]) (by kernel_rfl) (by simp) ?_
    refine AllReadyH.cons rfl (fun K hK => ?_) AllReadyH.nil
    go_simp
    go_at_call 55
    refine (frk_keep (f := ⟨24, fa, fb, fc, ff, fd, fm, fl⟩) HB2.out (PP.out _ _ (by first | exact Or.inl ⟨rfl, rfl⟩ | exact Or.inr (Or.inl ⟨rfl, rfl⟩) | exact Or.inr (Or.inr ⟨rfl, rfl⟩))) hSv12).mono ?_
    rintro e v13 ⟨rfl, hSv13⟩
    go_wp2_with fail
    refine hK.out _ _ hSv13 (fun _ => ?_)
    clear hK K
    try simp only [Act.put, List.setIfInBounds_toArray, List.set_cons_zero, List.set_cons_succ]
    refine take_dst (i := 10) (v := ?_) 30 rfl rfl (by kernel_rfl) (by kernel_rfl) (by kernel_rfl) (fun _ _ _ h => h) (Or.inl ⟨by rfl, ?_⟩) hSv13 ?_
    rotate_left
    · intro w hSw
      obtain ⟨⟨p0, p1, p2, p3, p4, p5, p6, p7⟩, _⟩ := hSw.1
      dsimp only at p0 p1 p2 p3 p4 p5 p6 p7
      have hz := hSw.2
      go_simp
      first | done | (with_reducible rfl)
    simp only [Act.put, List.setIfInBounds_toArray, List.set_cons_zero, List.set_cons_succ]
    refine take_dst (i := 17) (v := ?_) 37 rfl rfl (by kernel_rfl) (by kernel_rfl) (by kernel_rfl) (fun _ _ _ h => h) (Or.inl ⟨by rfl, ?_⟩) hSv13 ?_
    rotate_left
    · intro w hSw
      obtain ⟨⟨p0, p1, p2, p3, p4, p5, p6, p7⟩, _⟩ := hSw.1
      dsimp only at p0 p1 p2 p3 p4 p5 p6 p7
      have hz := hSw.2
      go_simp
      first | done | (with_reducible rfl)
    simp only [Act.put, List.setIfInBounds_toArray, List.set_cons_zero, List.set_cons_succ]
    refine take_dst (i := 20) (v := ?_) 40 rfl rfl (by kernel_rfl) (by kernel_rfl) (by kernel_rfl) (fun _ _ _ h => h) (Or.inl ⟨by rfl, ?_⟩) hSv13 ?_
    rotate_left
    · intro w hSw
      obtain ⟨⟨p0, p1, p2, p3, p4, p5, p6, p7⟩, _⟩ := hSw.1
      dsimp only at p0 p1 p2 p3 p4 p5 p6 p7
      have hz := hSw.2
      go_simp
      first | done | (with_reducible rfl)
    simp only [Act.put, List.setIfInBounds_toArray, List.set_cons_zero, List.set_cons_succ]
    refine take_dst (i := 23) (v := ?_) 43 rfl rfl (by kernel_rfl) (by kernel_rfl) (by kernel_rfl) (fun _ _ _ h => h) (Or.inl ⟨by rfl, ?_⟩) hSv13 ?_
    rotate_left
    · intro w hSw
      obtain ⟨⟨p0, p1, p2, p3, p4, p5, p6, p7⟩, _⟩ := hSw.1
      dsimp only at p0 p1 p2 p3 p4 p5 p6 p7
      have hz := hSw.2
      go_simp
      first | done | (with_reducible rfl)
    simp only [Act.put, List.setIfInBounds_toArray, List.set_cons_zero, List.set_cons_succ]
    refine take_dst (i := 24) (v := ?_) 2 rfl rfl (by kernel_rfl) (by kernel_rfl) (by kernel_rfl) (fun _ _ _ h => h) (Or.inl ⟨by rfl, ?_⟩) hSv13 ?_
    rotate_left
    · intro w hSw
      obtain ⟨⟨p0, p1, p2, p3, p4, p5, p6, p7⟩, _⟩ := hSw.1
      dsimp only at p0 p1 p2 p3 p4 p5 p6 p7
      have hz := hSw.2
      go_simp
      first | done | (with_reducible rfl)
    simp only [Act.put, List.setIfInBounds_toArray, List.set_cons_zero, List.set_cons_succ]
    refine wpAnyH_done (by kernel_rfl) ?_ _
    go_wp2_with fail
    go_ret
    exact ⟨congrArg _ (str_of HF.out), HM2.out.trans hSv13.1.2 (by simp)⟩
end Go.Proofs.YtbjmcnmcodbkdaaDoor

/-
  frames: wayOf at padding and at a stream; ranges' bytes, plain.
-/
namespace Go.Proofs.YtbjmcnmcodbkdaaDoor
open Go.RowKit

set_option maxRecDepth 100000 in
set_option maxHeartbeats 1500000 in
theorem wayP_any (w : World) (A : Option Addr) (n c : Nat) (f : Fr) (hk : f.kind = 0) (ha : f.a ≤ 16384) :
    Calls Tryd.prog 54 #[fval A n c f] w fun e w' => e = .returned (str (fway f)) ∧ Mod [] w w' := by
  have HRep := hide (fun w => repeat0_any w f.a ha)
  have hw : fway f = List.replicate f.a 0 := by unfold fway; rw [if_pos hk]
  have hwr : IntKind.i64.wrap ((f.a : Nat) : Int) = (f.a : Nat) := IntWalk.i64_in _ (by omega)
  rw [hw]
  have hkb : ((f.kind : Int) == 0) = true := by simp; omega
  obtain ⟨R, hR⟩ : ∃ R, (List.replicate f.a 0 : List UInt8) = R := ⟨_, rfl⟩
  rw [hR] at HRep ⊢
  clear hw hR hk
  unfold fval fcs
  go_enter Tryd.func54, Tryd.ntmps54
  go_wp2_with fail
  refine (HRep.out _).mono ?_
  rintro e w1 ⟨rfl, m1⟩
  go_wp2_with fail
  go_ret
  exact ⟨rfl, ((Mod.refl _ _).alloc _).trans m1 (by simp)⟩

set_option maxRecDepth 100000 in
set_option maxHeartbeats 1500000 in
theorem wayS_any (w : World) (A : Option Addr) (n c : Nat) (f : Fr) (hk : f.kind = 8) (hd : f.data.size ≤ 16384) :
    Calls Tryd.prog 54 #[fval A n c f] w fun e w' => e = .returned (str (fway f)) ∧ Mod [] w w' := by
  have hs := fun w => stream_any w A n c f hd
  have hw : fway f = fstream f := by unfold fway; rw [if_neg (by omega), if_pos hk]
  rw [hw]
  have h0 : ((f.kind : Int) == 0) = false := by simp; omega
  have h8 : ((f.kind : Int) == 8) = true := by simp; omega
  obtain ⟨R, hR⟩ : ∃ R, fstream f = R := ⟨_, rfl⟩
  rw [hR] at hs ⊢
  have HS := hide hs
  clear hw hR hk hs
  unfold fval fcs at *
  go_enter Tryd.func54, Tryd.ntmps54
  go_wp2_with fail
  refine (HS.out _).mono ?_
  rintro e w1 ⟨rfl, m1⟩
  go_wp2_with fail
  go_ret
  exact ⟨rfl, ((Mod.refl _ _).alloc _).trans m1 (by simp)⟩

/-- the ranges' bytes behind j rounds -/
def ackP (l : List (Nat × Nat)) : Nat → List UInt8
  | 0 => []
  | j + 1 => ackP l j ++ ((if 0 < j then vputS ((l.getD (j - 1) (0, 0)).1 - (l.getD j (0, 0)).2 - 2) else []) ++ vputS ((l.getD j (0, 0)).2 - (l.getD j (0, 0)).1))
theorem ackP_len (l : List (Nat × Nat)) : ∀ j, (ackP l j).length ≤ 16 * j
  | 0 => by simp [ackP]
  | j + 1 => by
    have h1 := ackP_len l j
    have h2 := vputS_le ((l.getD j (0, 0)).2 - (l.getD j (0, 0)).1)
    have h3 := vputS_le ((l.getD (j - 1) (0, 0)).1 - (l.getD j (0, 0)).2 - 2)
    unfold ackP
    simp only [List.length_append]
    split
    · omega
    · simp only [List.length_nil]; omega
theorem ackP_all (r : Nat × Nat) (t : List (Nat × Nat)) : ∀ j, j ≤ t.length → ackP (r :: t) (j + 1) ++ rbytes ((r :: t).getD j (0, 0)).1 (t.drop j) = vputS (r.2 - r.1) ++ rbytes r.1 t
  | 0, _ => by simp [ackP]
  | j + 1, h => by
    have h1 := ackP_all r t j (by omega)
    rw [← h1, List.drop_eq_getElem_cons (by omega : j < t.length)]
    rw [show ackP (r :: t) (j + 1 + 1) = ackP (r :: t) (j + 1) ++ ((if 0 < j + 1 then vputS (((r :: t).getD (j + 1 - 1) (0, 0)).1 - ((r :: t).getD (j + 1) (0, 0)).2 - 2) else []) ++ vputS (((r :: t).getD (j + 1) (0, 0)).2 - ((r :: t).getD (j + 1) (0, 0)).1)) from rfl]
    have e : (r :: t).getD (j + 1) (0, 0) = t[j] := by
      rw [List.getD_cons_succ, List.getD_eq_getElem?_getD, List.getElem?_eq_getElem (by omega)]; rfl
    rw [if_pos (by omega), e, Nat.add_sub_cancel, rbytes]
    simp only [List.append_assoc]
theorem ackP_end (r : Nat × Nat) (t : List (Nat × Nat)) : ackP (r :: t) (r :: t).length = vputS (r.2 - r.1) ++ rbytes r.1 t := by
  have := ackP_all r t t.length (Nat.le_refl _)
  rw [List.drop_length] at this
  rw [← this]
  simp [rbytes]
/-- what the ranges are -/
theorem rngOk_all : ∀ (l : List (Nat × Nat)) (prev : Option Nat), rngOk prev l = true → ∀ i (h : i < l.length), l[i].1 ≤ l[i].2 ∧ l[i].2 < 4611686018427387904 ∧ (∀ h0 : 0 < i, l[i].2 + 2 ≤ l[i - 1].1)
  | [], _, _, i, h => by simp at h
  | r :: t, prev, hr, i, h => by
    obtain ⟨h1, h2, _, h4⟩ := rngOk_cons hr
    match i with
    | 0 => exact ⟨h1, h2, fun h0 => absurd h0 (by omega)⟩
    | 1 =>
      have hl : 0 < t.length := by simp at h; omega
      have ht := rngOk_all t _ h4 0 hl
      refine ⟨ht.1, ht.2.1, fun _ => ?_⟩
      match t, h4, hl with
      | q :: u, h4, _ =>
        obtain ⟨_, _, h7, _⟩ := rngOk_cons h4
        have := h7 _ rfl
        simp only [List.getElem_cons_succ, List.getElem_cons_zero, Nat.sub_self]
        omega
    | k + 2 =>
      have hl : k + 1 < t.length := by simp at h; omega
      have ht := rngOk_all t _ h4 (k + 1) hl
      exact ⟨ht.1, ht.2.1, fun _ => ht.2.2 (by omega)⟩
end Go.Proofs.YtbjmcnmcodbkdaaDoor
