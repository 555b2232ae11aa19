/-
  Contracts and plain laws that the proofs of this seat share, part 7 of 8: FrRdA, FrTrim, FrRdFr, FrRead, FrAllP, FrAll.
-/
import Derived.Test.YtbjmcnmcodbkdaaDoorG6

/-
  frames: the reader's acked.
-/
namespace Go.Proofs.YtbjmcnmcodbkdaaDoor
open Go.RowKit

theorem ROwn.modRF {w w' : World} {B R F : Nat} {A : Option Addr} {n c c' : Nat} {l : List (Nat × Nat)} {f : Fr} {st : RS} {A' : Option Addr} (h : ROwn w B A c l) (hf : RF w R F A' n c' f st) (m : Mod [R, F] w w') : ROwn w' B A c l :=
  h.mod m (by
    rintro g o hA hmem
    obtain ⟨s, hr, _⟩ := hf.rd
    have a1 := h.ne hf.blk (by decide) g o hA
    have a2 := h.ne hr (by decide) g o hA
    simp at hmem
    rcases hmem with h | h <;> contradiction)
theorem racked2 (f : Fr) (st : RS) (h : f.kind ≠ 3) : racked f st = rranges f st := if_neg h
theorem racked3 {f : Fr} {st : RS} {g : Fr} {s0 s1 s2 s3 : RS} {x1 x2 x3 : Nat} (h : f.kind = 3) (e0 : rranges f st = (g, s0)) (e1 : rnum s0 = (x1, s1)) (e2 : rnum s1 = (x2, s2)) (e3 : rnum s2 = (x3, s3)) :
    racked f st = ({ g with b := x1, c := x2, more := ⟨(be x3 8).toArray⟩ }, s3) := by
  unfold racked
  rw [if_pos h, e0]
  simp only [e1, e2, e3]

set_option maxRecDepth 100000 in
set_option maxHeartbeats 4000000 in
theorem racked_any (w : World) (R F : Nat) (f : Fr) (st : RS) (hf0 : f.list = []) (h : RF w R F none 0 0 f st) :
    Calls Tryd.prog 46 #[.pointer (some ⟨R, 0, none⟩), .pointer (some ⟨F, 0, none⟩)] w fun e w' => e = .returned (.tuple #[]) ∧ RPostR w R F (racked f st) w' := by
  have HR := hide (rranges_any w R F f st hf0 h)
  have hkk := rranges_kind f st
  obtain ⟨g, s0, e0⟩ : ∃ g s0, rranges f st = (g, s0) := ⟨_, _, rfl⟩
  rw [e0] at HR hkk
  simp only at hkk
  have HK := hide hkk
  by_cases h3 : f.kind = 3
  · obtain ⟨x1, s1, e1, b1⟩ := numE s0
    obtain ⟨x2, s2, e2, b2⟩ := numE s1
    obtain ⟨x3, s3, e3, b3⟩ := numE s2
    have HV := hide (racked3 h3 e0 e1 e2 e3)
    have E1 := hide e1
    have E2 := hide e2
    have E3 := hide e3
    have hk3 : ((g.kind : Int) == 3) = true := by rw [hkk, h3]; rfl
    have HB8 := hide (fun w => fbytes8_any w x3 (by omega))
    clear h hkk e0 e1 e2 e3 h3 hf0
    go_enter Tryd.func46, Tryd.ntmps46
    go_wp2_with fail
    refine HR.out.mono ?_
    rintro e w1 ⟨rfl, A, c, h1, o1, hl1, m1⟩
    simp only at h1 o1 hl1
    have H1 := hide h1
    have O1 := hide o1
    have HL1 := hide hl1
    have M1 := hide m1
    obtain ⟨p0, p1, p2, p3, p4, p5, p6, p7⟩ := fcells h1.blk
    have hlF := h1.blk.lt
    have q0 := h1.blk.frozen 0
    have q1 := h1.blk.frozen 1
    have q2 := h1.blk.frozen 2
    have q3 := h1.blk.frozen 3
    have q4 := h1.blk.frozen 4
    have q5 := h1.blk.frozen 5
    have q6 := h1.blk.frozen 6
    clear h1 o1 hl1 m1
    go_wp2_with fail
    clear p0 p1 p2 p3 p4 p5 p6 p7 hlF q0 q1 q2 q3 q4 q5 q6
    refine (H1.out.num E1.out).mono ?_
    rintro e w2 ⟨rfl, h2, m2⟩
    have o2 := hide (O1.out.modRF H1.out m2)
    have H2 := hide h2
    have M2 := hide (M1.out.trans m2 (by simp))
    clear h2 m2 H1 O1 M1
    go_wp2_with fail
    refine (H2.out.num E2.out).mono ?_
    rintro e w3 ⟨rfl, h3, m3⟩
    obtain ⟨p0, p1, p2, p3, p4, p5, p6, p7⟩ := fcells h3.blk
    have hlF := h3.blk.lt
    have q0 := h3.blk.frozen 0
    have q1 := h3.blk.frozen 1
    have q2 := h3.blk.frozen 2
    have q3 := h3.blk.frozen 3
    have q4 := h3.blk.frozen 4
    have q5 := h3.blk.frozen 5
    have q6 := h3.blk.frozen 6
    have O3 := o2.out.modRF H2.out m3
    have h4 := (h3.set_b x1).set_c x2
    have m34 : Mod [R, F] w3 ((w3.setCell ⟨F, 2, none⟩ (.int .u64 x1)).setCell ⟨F, 3, none⟩ (.int .u64 x2)) := ((Mod.refl [R, F] w3).setCell (p := ⟨F, 2, none⟩) (.inl (by simp)) (.int .u64 x1)).setCell (p := ⟨F, 3, none⟩) (.inl (by simp)) (.int .u64 x2)
    have O4 := hide (O3.modRF h3 m34)
    have M4 := hide ((M2.out.trans m3 (by simp)).trans m34 (by simp))
    have H4 := hide h4
    clear h3 m3 o2 O3 h4 m34 H2 M2
    go_wp2_with fail
    clear p0 p1 p2 p3 p4 p5 p6 p7 hlF q0 q1 q2 q3 q4 q5 q6
    refine (H4.out.num E3.out).mono ?_
    rintro e w5 ⟨rfl, h5, m5⟩
    have O5 := hide (O4.out.modRF H4.out m5)
    have H5 := hide h5
    have M5 := hide (M4.out.trans m5 (by simp))
    clear h5 m5 H4 O4 M4
    go_wp2_with fail
    refine (HB8.out w5).mono ?_
    rintro e w6 ⟨rfl, m6⟩
    have h6 : RF w6 R F A g.list.length c { g with b := x1, c := x2 } s3 := ⟨m6.blk H5.out.blk (by simp), H5.out.rd.mod m6 (by simp)⟩
    have O6 := O5.out.mod m6 (by simp)
    have m6' := M5.out.trans m6 (by simp)
    unfold str
    obtain ⟨V, hV⟩ : ∃ V : ByteArray, (⟨(be x3 8).toArray⟩ : ByteArray) = V := ⟨_, rfl⟩
    rw [hV] at HV ⊢
    obtain ⟨p0, p1, p2, p3, p4, p5, p6, p7⟩ := fcells h6.blk
    have hlF := h6.blk.lt
    have q0 := h6.blk.frozen 0
    have q1 := h6.blk.frozen 1
    have q2 := h6.blk.frozen 2
    have q3 := h6.blk.frozen 3
    have q4 := h6.blk.frozen 4
    have q5 := h6.blk.frozen 5
    have q6 := h6.blk.frozen 6
    have h7 := hide (h6.set_more V)
    have m67 : Mod [R, F] w6 (w6.setCell ⟨F, 6, none⟩ (.string V)) := (Mod.refl [R, F] w6).setCell (p := ⟨F, 6, none⟩) (.inl (by simp)) (.string V)
    have O7 := hide (O6.modRF h6 m67)
    have M7 := hide (m6'.trans m67 (by simp))
    clear h6 m6 O6 m6' m67 hV H5 O5 M5
    go_wp2_with fail
    go_end0
    exact ⟨rfl, RPostR.of HV.out h7.out O7.out HL1.out M7.out⟩
  · have HV := hide ((racked2 f st h3).trans e0)
    have hk3 : ((g.kind : Int) == 3) = false := by rw [hkk]; simp; omega
    clear h hkk e0 h3 hf0
    go_enter Tryd.func46, Tryd.ntmps46
    go_wp2_with fail
    refine HR.out.mono ?_
    rintro e w1 ⟨rfl, A, c, h1, o1, hl1, m1⟩
    simp only at h1 o1 hl1
    have H1 := hide h1
    have O1 := hide o1
    have HL1 := hide hl1
    have M1 := hide m1
    obtain ⟨p0, p1, p2, p3, p4, p5, p6, p7⟩ := fcells h1.blk
    have hlF := h1.blk.lt
    have q0 := h1.blk.frozen 0
    have q1 := h1.blk.frozen 1
    have q2 := h1.blk.frozen 2
    have q3 := h1.blk.frozen 3
    have q4 := h1.blk.frozen 4
    have q5 := h1.blk.frozen 5
    have q6 := h1.blk.frozen 6
    clear h1 o1 hl1 m1
    go_wp2_with fail
    go_end0
    exact ⟨rfl, RPostR.of HV.out H1.out O1.out HL1.out M1.out⟩
end Go.Proofs.YtbjmcnmcodbkdaaDoor

/-
  strings.TrimLeft of zero bytes.
-/
namespace Go.Proofs.YtbjmcnmcodbkdaaDoor
open Go.RowKit

def dz (l : List UInt8) : List UInt8 := l.dropWhile (· == 0)
theorem dz_zeros (l : List UInt8) : dz l = l.drop (zeros l) := by
  unfold dz zeros
  induction l with
  | nil => rfl
  | cons c t ih =>
    by_cases h : (c == 0) = true
    · simp only [List.dropWhile_cons, List.takeWhile_cons, h, if_true, List.length_cons, List.drop_succ_cons, ih]
    · simp only [List.dropWhile_cons, List.takeWhile_cons, h]; rfl
theorem dz_len (l : List UInt8) : (dz l).length = l.length - zeros l := by rw [dz_zeros, List.length_drop]
theorem zeros_le (l : List UInt8) : zeros l ≤ l.length := (List.takeWhile_prefix _).length_le

def strLen (v : Value) : Nat := match v with | .string s => s.size | _ => 0
set_option maxRecDepth 100000 in
set_option maxHeartbeats 2000000 in
theorem trimb_any (w : World) (x y : ByteArray) (hy : y.data.toList = dz x.data.toList) :
    Calls Tryd.prog 64 #[.string x, .int .u8 0] w fun e w' => e = .returned (.string y) ∧ w' = w := by
  have HY := hide hy
  clear hy
  go_enter Tryd.func64, Tryd.ntmps64
  go_wp2_with fail
  go_loopw [0] (fun sv wr => ∃ s : ByteArray, sv = .string s ∧ Hid (y.data.toList = dz s.data.toList) ∧ wr = w) (fun sv _ => strLen sv)
  case atStart => exact ⟨x, rfl, HY, rfl⟩
  case round =>
    obtain ⟨s, rfl, hs, rfl⟩ := hrel
    have hl := bytes_len s
    cases hc : s.data.toList with
    | nil =>
      rw [hc] at hl
      simp only [List.length_nil] at hl
      have h0 : ¬ (0 : Int) < s.size := by omega
      have h1 : y = s := bytes_eq (by rw [hs.out, hc]; rfl)
      have H1 := hide h1
      clear hs h1 hc hl
      go_wp2_with fail
      go_ret
      exact ⟨by rw [H1.out]; rfl, rfl⟩
    | cons c t =>
      rw [hc] at hl
      simp only [List.length_cons] at hl
      have h0 : (0 : Int) < s.size := by omega
      have h00 : 0 < s.size := by omega
      have hg : s[0]'(by omega) = c := getElem_list s 0 (by omega) c (by rw [hc]; rfl)
      have hcl := c.toNat_lt
      by_cases hz : c = 0
      · have hcz : ((c.toNat : Int) == 0) = true := by subst hz; rfl
        have e1 : (s.extract 1 s.size).data.toList = t := by
          rw [Lib.extract_data, hc, List.take_of_length_le (by simp; omega)]; rfl
        have e2 : (s.extract 1 s.size).size = t.length := by rw [← bytes_len, e1]
        have HN : Hid (y.data.toList = dz (s.extract 1 s.size).data.toList) := hide (by
          rw [hs.out, e1, hc, hz]; rfl)
        have E2 := hide e2
        have HLn := hide hl
        clear hs e1 e2 hz hc hl
        go_wp2_with fail
        go_roundw
        case rel => exact ⟨_, rfl, HN, trivial⟩
        case measure =>
          have := E2.out
          have := HLn.out
          simp only [strLen]
          omega
      · have hcz : ((c.toNat : Int) == 0) = false := by
          have : c.toNat ≠ 0 := fun h => hz (by apply UInt8.toNat.inj; simpa using h)
          simp; omega
        have h1 : y = s := bytes_eq (by
          rw [hs.out, hc]
          exact List.dropWhile_cons_of_neg (by simpa using hz))
        have H1 := hide h1
        clear hs h1 hc hz hl
        go_wp2_with fail
        go_ret
        exact ⟨by rw [H1.out]; rfl, rfl⟩

set_option maxRecDepth 100000 in
set_option maxHeartbeats 2000000 in
theorem trim_any (w : World) (x y : ByteArray) (hy : y.data.toList = dz x.data.toList) :
    Calls Tryd.prog 45 #[.string x, .string ⟨#[0]⟩] w fun e w' => e = .returned (.string y) ∧ w' = w := by
  have HT := hide (trimb_any w x y hy)
  have hes := empty_size x
  by_cases h0 : x.size = 0
  · rw [decide_eq_true h0] at hes
    have h1 : y = x := bytes_eq (by rw [hy, show x = ⟨#[]⟩ from size0 h0]; rfl)
    have H1 := hide h1
    clear h1 hy h0
    go_enter Tryd.func45, Tryd.ntmps45
    go_wp2_with fail
    go_ret
    exact ⟨by rw [H1.out]; rfl, rfl⟩
  · rw [decide_eq_false h0] at hes
    clear hy h0
    go_enter Tryd.func45, Tryd.ntmps45
    go_wp2_with fail
    refine HT.out.mono ?_
    rintro e w1 ⟨rfl, rfl⟩
    go_wp2_with fail
    go_ret
    exact ⟨rfl, rfl⟩
end Go.Proofs.YtbjmcnmcodbkdaaDoor

/-
  frames: the reader's frame.
-/
namespace Go.Proofs.YtbjmcnmcodbkdaaDoor
open Go.RowKit

/-- behind a frame that was read -/
def FPost (w : World) (R : Nat) (x : Fr × RS) (e : Ending) (w' : World) : Prop := ∃ A c, e = .returned (fval A x.1.list.length c x.1) ∧ RdO w' R x.2 ∧ ROwn w' w.heap.size A c x.1.list ∧ x.1.list.length ≤ 64 ∧ Mod [R] w w'
abbrev fsets (X : World) (RB : Nat) (V : Array Value) : World := (List.range 8).foldl (fun w i => w.setCell ⟨RB, i, none⟩ (V.getD i undef)) X
theorem fsets_mod (X : World) (RB : Nat) (V : Array Value) : Mod [RB] X (fsets X RB V) := (Mod.refl [RB] X).sets (g := RB) (.inl (by simp)) (fun i => V.getD i undef) (List.range 8)
theorem fsets_blk {X : World} {RB : Nat} {t : TypeId} {cs : Array Value} (V : Array Value) (h : Blk X RB t cs) (hc : cs.size = 8) (hV : V.size = 8) : Blk (fsets X RB V) RB t V := by
  have hb2 := h.sets (fun i => V.getD i undef) (List.range 8)
  rw [sets_eq _ _ 8 hc hV] at hb2
  exact hb2
theorem fpost_mk {w X : World} {R F RB : Nat} {A : Option Addr} {c : Nat} {g : Fr} {st st' : RS} (h : RF X R F A g.list.length c g st') (hrb : Blk X RB 26 (fcs none 0 0 fr0)) (m : Mod [R] w X) (hRB : w.heap.size ≤ RB) (hRR : R < RB)
    (o : ROwn X w.heap.size A c g.list) (hl : g.list.length ≤ 64) (e : rframe st = (g, st')) :
    Blk (fsets X RB (fcs A g.list.length c g)) RB 26 (fcs A g.list.length c g) ∧ FPost w R (rframe st) (.returned (.agg (fcs A g.list.length c g))) (fsets X RB (fcs A g.list.length c g)) := by
  have hs := fsets_mod X RB (fcs A g.list.length c g)
  have hb := fsets_blk (fcs A g.list.length c g) hrb rfl rfl
  obtain ⟨Y, hY⟩ : ∃ Y, fsets X RB (fcs A g.list.length c g) = Y := ⟨_, rfl⟩
  rw [hY] at hs hb ⊢
  refine ⟨hb, ?_⟩
  rw [e]
  have hne : R ∉ [RB] := by
    intro h; simp at h; omega
  refine ⟨A, c, rfl, h.rd.mod hs hne, o.mod hs (fun g' o' hA hm => ?_), hl, m.trans hs (fun x hx => by simp at hx; right; omega)⟩
  have := o.ne hrb (by decide) g' o' hA
  simp at hm
  contradiction
theorem FPost.alloc {w w' : World} {R : Nat} {x : Fr × RS} {e : Ending} (h : FPost w R x e w') (o : Obj) : FPost w R x e (w'.alloc o) := by
  obtain ⟨A, c, h1, h2, h3, h4, h5⟩ := h
  exact ⟨A, c, h1, h2.mod ((Mod.refl [] _).alloc o) (by simp), h3.mod ((Mod.refl [] _).alloc o) (by simp), h4, h5.alloc o⟩
theorem fpost_al {w X : World} {R F RB : Nat} {A : Option Addr} {c : Nat} {g : Fr} {st st' : RS} (o' : Obj) (h : RF X R F A g.list.length c g st') (hrb : Blk X RB 26 (fcs none 0 0 fr0)) (m : Mod [R] w X) (hRB : w.heap.size ≤ RB) (hRR : R < RB)
    (o : ROwn X w.heap.size A c g.list) (hl : g.list.length ≤ 64) (e : rframe st = (g, st')) :
    Blk ((fsets X RB (fcs A g.list.length c g)).alloc o') RB 26 (fcs A g.list.length c g) ∧ FPost w R (rframe st) (.returned (.agg (fcs A g.list.length c g))) ((fsets X RB (fcs A g.list.length c g)).alloc o') := by
  obtain ⟨h1, h2⟩ := fpost_mk h hrb m hRB hRR o hl e
  exact ⟨h1.alloc _, h2.alloc _⟩
theorem rnum_none' {st : RS} {x : Nat} (e : rnum st = (x, none)) : x = 0 := by
  cases st with
  | none => cases e; rfl
  | some l =>
    cases h : pnum l with
    | none => rw [rnum_fail h] at e; cases e; rfl
    | some y => rw [rnum_some h] at e; cases e
theorem rframe_bad {st : RS} {x : Nat} (e : rnum st = (x, none)) : rframe st = ({ fr0 with kind := x }, none) := by
  unfold rframe
  simp only [e, if_true]
theorem rframe_sh {st : RS} {x : Nat} {l : List UInt8} {sh : Shp} (e : rnum st = (x, some l)) (hs : fshape x = some sh) : rframe st = rshaped sh { fr0 with kind := x } (some l) := by
  unfold rframe
  simp only [e]
  rw [if_neg (by simp), hs]
theorem rframe_own {st : RS} {x : Nat} {l : List UInt8} (e : rnum st = (x, some l)) (hs : fshape x = none) : rframe st = if x = 0 then rpad { fr0 with kind := x } (some l) else if x = 2 ∨ x = 3 then racked { fr0 with kind := x } (some l) else if 8 ≤ x ∧ x < 16 then rstream { fr0 with kind := x } (some l) else if x = 24 then rcid { fr0 with kind := x } (some l) else ({ fr0 with kind := x }, none) := by
  unfold rframe
  simp only [e]
  rw [if_neg (by simp), hs]
theorem rshaped_list (sh : Shp) (f : Fr) (st : RS) : (rshaped sh f st).1.list = f.list := by
  unfold rshaped rshN
  split <;> rfl
theorem rcid_list (f : Fr) (st : RS) : (rcid f st).1.list = f.list := by
  unfold rcid
  simp only
  split <;> rfl

set_option maxRecDepth 100000 in
set_option maxHeartbeats 16000000 in
theorem rframe_any (w : World) (R : Nat) (st : RS) (h : RdO w R st) :
    Calls Tryd.prog 27 #[.pointer (some ⟨R, 0, none⟩)] w (FPost w R (rframe st)) := by
  obtain ⟨x1, s1, e1, b1⟩ := numE st
  have HN := hide (fun w h => rnum_any w R st h)
  have H := hide h
  have hRl := h.lt
  rw [e1] at HN
  have hsh := fun w => shapes_any w x1
  obtain ⟨sh, hshe⟩ : ∃ sh, shS x1 = sh := ⟨_, rfl⟩
  rw [hshe] at hsh
  have HShe := hide hshe
  obtain ⟨n, t, x⟩ := sh
  obtain ⟨is, his⟩ : ∃ is, (fshape x1).isSome = is := ⟨_, rfl⟩
  rw [his] at hsh
  unfold shval at hsh
  have HSh := hide hsh
  have E1 := hide e1
  have HIs := hide his
  clear h e1 hsh hshe his
  go_enter Tryd.func27, Tryd.ntmps27
  go_wp2_with fail
  have hrb0 : Blk (w.alloc (.cells (fcs none 0 0 fr0) 26)) w.heap.size 26 (fcs none 0 0 fr0) := Blk.new _ _ _
  refine (HN.out _ (H.out.mod ((Mod.refl [] w).alloc _) (by simp))).mono ?_
  rintro e w1 ⟨rfl, h1, m1⟩
  go_wp2_with fail
  refine (HSh.out _).mono ?_
  rintro e w2 ⟨rfl, m2⟩
  have m1' : Mod [R] w w1 := ((Mod.refl [R] w).alloc (.cells (fcs none 0 0 fr0) 26)).trans m1 (by simp)
  have hrb1 : Blk w1 w.heap.size 26 (fcs none 0 0 fr0) := m1.blk hrb0 (by simp; omega)
  have hw1 : w.heap.size < w1.heap.size := hrb1.lt
  have hf1 : RF (w1.alloc (.cells (fcs none 0 0 { fr0 with kind := x1 }) 26)) R w1.heap.size none 0 0 { fr0 with kind := x1 } s1 := ⟨Blk.new _ _ _, h1.mod ((Mod.refl [] _).alloc _) (by simp)⟩
  have m2r : Mod [R] w w2 := (m1'.alloc (.cells (fcs none 0 0 { fr0 with kind := x1 }) 26)).trans m2 (by simp)
  have hf2 : RF w2 R w1.heap.size none 0 0 { fr0 with kind := x1 } s1 := ⟨m2.blk hf1.blk (by simp), hf1.rd.mod m2 (by simp)⟩
  have hrb2 : Blk w2 w.heap.size 26 (fcs none 0 0 fr0) := m2.blk (hrb1.alloc _) (by simp)
  obtain ⟨RB, hRBe⟩ : ∃ RB, w.heap.size = RB := ⟨_, rfl⟩
  obtain ⟨F, hFe⟩ : ∃ F, w1.heap.size = F := ⟨_, rfl⟩
  have hRB : w.heap.size ≤ RB := by omega
  have hRR : R < RB := by omega
  have hRF : RB < F := by omega
  have HRB := hide hRB
  have HRR := hide hRR
  have hne : RB ≠ F := by omega
  have hne' : F ≠ RB := by omega
  have hneR : F ≠ R := by omega
  have hneR' : R ≠ F := by omega
  rw [hRBe] at hrb2
  rw [hFe] at hf2
  simp only [hRBe, hFe]
  have HF2 := hide hf2
  have HRB2 := hide hrb2
  have M2 := hide m2r
  clear hrb0 h1 m1 m1' hrb1 hw1 hf1 m2 m2r hf2 hrb2 H HN HSh hRl hRB hRBe hFe
  obtain ⟨o3, ho3⟩ : ∃ o : Obj, .cells #[.int .i64 (n : Nat), .bool t, .int .i64 (x : Nat)] 72 = o := ⟨_, rfl⟩
  have HF3 := hide (HF2.out.alloc o3)
  have HRB3 := hide (HRB2.out.alloc o3)
  have M3 := hide (M2.out.alloc o3)
  rw [← ho3] at HF3 HRB3 M3
  have hsb3 : Blk (w2.alloc (.cells #[.int .i64 (n : Nat), .bool t, .int .i64 (x : Nat)] 72)) w2.heap.size 72 #[.int .i64 (n : Nat), .bool t, .int .i64 (x : Nat)] := Blk.new _ _ _
  have O3 := hide (ROwn.nil (w2.alloc (.cells #[.int .i64 (n : Nat), .bool t, .int .i64 (x : Nat)] 72)) w.heap.size)
  have L0 : Hid (([] : List (Nat × Nat)).length ≤ 64) := hide (by simp)
  clear ho3
  obtain ⟨sr, p0, p1, u0, u1, hlR, hsr, hsl⟩ := HF2.out.cells
  have HSl := hide hsl
  clear hsl
  cases s1 with
  | none =>
    have hx0 := rnum_none' E1.out
    obtain rfl : is = false := by rw [← HIs.out, hx0]; rfl
    clear hx0
    simp only [Option.isNone_none] at p1
    have HP := hide (fpost_al (g := { fr0 with kind := x1 }) (.cells #[.int .i64 (n : Nat), .bool t, .int .i64 (x : Nat)] 72) HF2.out HRB2.out M2.out HRB.out HRR.out (ROwn.nil _ _) L0.out (rframe_bad E1.out))
    have r0 : w2.frozen? ⟨RB, 0, none⟩ = false := HRB2.out.frozen 0
    have z0 : w2.cell? ⟨RB, 0, none⟩ = some (.int .u64 0) := HRB2.out.cell 0
    have r1 : w2.frozen? ⟨RB, 1, none⟩ = false := HRB2.out.frozen 1
    have z1 : w2.cell? ⟨RB, 1, none⟩ = some (.int .u64 0) := HRB2.out.cell 1
    have r2 : w2.frozen? ⟨RB, 2, none⟩ = false := HRB2.out.frozen 2
    have z2 : w2.cell? ⟨RB, 2, none⟩ = some (.int .u64 0) := HRB2.out.cell 2
    have r3 : w2.frozen? ⟨RB, 3, none⟩ = false := HRB2.out.frozen 3
    have z3 : w2.cell? ⟨RB, 3, none⟩ = some (.int .u64 0) := HRB2.out.cell 3
    have r4 : w2.frozen? ⟨RB, 4, none⟩ = false := HRB2.out.frozen 4
    have z4 : w2.cell? ⟨RB, 4, none⟩ = some (.bool false) := HRB2.out.cell 4
    have r5 : w2.frozen? ⟨RB, 5, none⟩ = false := HRB2.out.frozen 5
    have z5 : w2.cell? ⟨RB, 5, none⟩ = some (.string ⟨#[]⟩) := HRB2.out.cell 5
    have r6 : w2.frozen? ⟨RB, 6, none⟩ = false := HRB2.out.frozen 6
    have z6 : w2.cell? ⟨RB, 6, none⟩ = some (.string ⟨#[]⟩) := HRB2.out.cell 6
    have r7 : w2.frozen? ⟨RB, 7, none⟩ = false := HRB2.out.frozen 7
    have z7 : w2.cell? ⟨RB, 7, none⟩ = some (.slice none 0 0) := HRB2.out.cell 7
    have hlRB := HRB2.out.lt
    have c0 : w2.cell? ⟨F, 0, none⟩ = some (.int .u64 (x1 : Nat)) := HF2.out.blk.cell 0
    have c1 : w2.cell? ⟨F, 1, none⟩ = some (.int .u64 0) := HF2.out.blk.cell 1
    have c2 : w2.cell? ⟨F, 2, none⟩ = some (.int .u64 0) := HF2.out.blk.cell 2
    have c3 : w2.cell? ⟨F, 3, none⟩ = some (.int .u64 0) := HF2.out.blk.cell 3
    have c4 : w2.cell? ⟨F, 4, none⟩ = some (.bool false) := HF2.out.blk.cell 4
    have c5 : w2.cell? ⟨F, 5, none⟩ = some (.string ⟨#[]⟩) := HF2.out.blk.cell 5
    have c6 : w2.cell? ⟨F, 6, none⟩ = some (.string ⟨#[]⟩) := HF2.out.blk.cell 6
    have c7 : w2.cell? ⟨F, 7, none⟩ = some (.slice none 0 0) := HF2.out.blk.cell 7
    have hlF := HF2.out.blk.lt
    clear HF2 HRB2 M2 HF3 HRB3 M3 hsb3 O3
    go_wp2_with fail
    refine bodyPost_ret (results_cell_row rfl _ _ RB 26 (fcs none 0 0 { fr0 with kind := x1 }) (0, 0) _ rfl ?_ Tryd.underlying26 rfl (by kernel_rfl)) rfl ?_
    · exact HP.out.1
    exact HP.out.2
  | some l =>
    simp only [Option.isNone_some] at p1
    cases hsp : fshape x1 with
    | some sh =>
      obtain rfl : is = true := by rw [← HIs.out, hsp]; rfl
      have hsh : sh = ⟨n, t, x⟩ := by rw [← HShe.out]; unfold shS; rw [hsp]; rfl
      subst hsh
      have hn3 := (fshape_lt hsp).2.1
      have hx8 : x ≤ 8 := fshape_x hsp
      have HE := hide (rframe_sh E1.out hsp)
      have HSA := hide (fun w h => rshaped_any w R F ⟨n, t, x⟩ hn3 hx8 none 0 0 { fr0 with kind := x1 } (some l) h)
      have hll := rshaped_list ⟨n, t, x⟩ { fr0 with kind := x1 } (some l)
      obtain ⟨g, s5, hg5⟩ : ∃ g s5, rshaped ⟨n, t, x⟩ { fr0 with kind := x1 } (some l) = (g, s5) := ⟨_, _, rfl⟩
      rw [hg5] at HE HSA hll
      simp only at HSA hll
      have hgl : g.list.length = 0 := by rw [hll]; rfl
      have HGL := hide hgl
      have HLL := hide hll
      unfold shval at HSA
      have HSB3 := hide hsb3
      have c0 : w2.cell? ⟨F, 0, none⟩ = some (.int .u64 (x1 : Nat)) := HF2.out.blk.cell 0
      have c1 : w2.cell? ⟨F, 1, none⟩ = some (.int .u64 0) := HF2.out.blk.cell 1
      have c2 : w2.cell? ⟨F, 2, none⟩ = some (.int .u64 0) := HF2.out.blk.cell 2
      have c3 : w2.cell? ⟨F, 3, none⟩ = some (.int .u64 0) := HF2.out.blk.cell 3
      have c4 : w2.cell? ⟨F, 4, none⟩ = some (.bool false) := HF2.out.blk.cell 4
      have c5 : w2.cell? ⟨F, 5, none⟩ = some (.string ⟨#[]⟩) := HF2.out.blk.cell 5
      have c6 : w2.cell? ⟨F, 6, none⟩ = some (.string ⟨#[]⟩) := HF2.out.blk.cell 6
      have c7 : w2.cell? ⟨F, 7, none⟩ = some (.slice none 0 0) := HF2.out.blk.cell 7
      have hlF := HF2.out.blk.lt
      clear hsp hn3 hx8 hg5 hll hgl hsb3 O3
      go_wp2_with fail
      refine (HSA.out _ HF3.out).mono ?_
      rintro e w4 ⟨rfl, h4, m4⟩
      have h4' : RF w4 R F none g.list.length 0 g s5 := by rw [HGL.out]; exact h4
      have H4 := hide h4'
      have HRB4 := hide (m4.blk HRB3.out (by simp; omega))
      have M4 := hide (M3.out.trans m4 (by simp; have := HRB.out; omega))
      have O4 : Hid (ROwn w4 w.heap.size none 0 g.list) := hide (by rw [HLL.out]; exact ROwn.nil _ _)
      have L4 : Hid (g.list.length ≤ 64) := hide (by rw [HGL.out]; omega)
      clear c0 c1 c2 c3 c4 c5 c6 c7 hlF h4 h4' m4 HF3 HRB3 M3 HF2 HRB2 M2 p0 p1 u0 u1 hlR
      have c0 : w4.cell? ⟨F, 0, none⟩ = some (.int .u64 (g.kind : Nat)) := H4.out.blk.cell 0
      have c1 : w4.cell? ⟨F, 1, none⟩ = some (.int .u64 (g.a : Nat)) := H4.out.blk.cell 1
      have c2 : w4.cell? ⟨F, 2, none⟩ = some (.int .u64 (g.b : Nat)) := H4.out.blk.cell 2
      have c3 : w4.cell? ⟨F, 3, none⟩ = some (.int .u64 (g.c : Nat)) := H4.out.blk.cell 3
      have c4 : w4.cell? ⟨F, 4, none⟩ = some (.bool g.fin) := H4.out.blk.cell 4
      have c5 : w4.cell? ⟨F, 5, none⟩ = some (.string g.data) := H4.out.blk.cell 5
      have c6 : w4.cell? ⟨F, 6, none⟩ = some (.string g.more) := H4.out.blk.cell 6
      have c7 : w4.cell? ⟨F, 7, none⟩ = some (.slice none g.list.length 0) := H4.out.blk.cell 7
      have hlF := H4.out.blk.lt
      have HP := hide (fpost_mk H4.out HRB4.out M4.out HRB.out HRR.out O4.out L4.out HE.out)
      have r0 : w4.frozen? ⟨RB, 0, none⟩ = false := HRB4.out.frozen 0
      have z0 : w4.cell? ⟨RB, 0, none⟩ = some (.int .u64 0) := HRB4.out.cell 0
      have r1 : w4.frozen? ⟨RB, 1, none⟩ = false := HRB4.out.frozen 1
      have z1 : w4.cell? ⟨RB, 1, none⟩ = some (.int .u64 0) := HRB4.out.cell 1
      have r2 : w4.frozen? ⟨RB, 2, none⟩ = false := HRB4.out.frozen 2
      have z2 : w4.cell? ⟨RB, 2, none⟩ = some (.int .u64 0) := HRB4.out.cell 2
      have r3 : w4.frozen? ⟨RB, 3, none⟩ = false := HRB4.out.frozen 3
      have z3 : w4.cell? ⟨RB, 3, none⟩ = some (.int .u64 0) := HRB4.out.cell 3
      have r4 : w4.frozen? ⟨RB, 4, none⟩ = false := HRB4.out.frozen 4
      have z4 : w4.cell? ⟨RB, 4, none⟩ = some (.bool false) := HRB4.out.cell 4
      have r5 : w4.frozen? ⟨RB, 5, none⟩ = false := HRB4.out.frozen 5
      have z5 : w4.cell? ⟨RB, 5, none⟩ = some (.string ⟨#[]⟩) := HRB4.out.cell 5
      have r6 : w4.frozen? ⟨RB, 6, none⟩ = false := HRB4.out.frozen 6
      have z6 : w4.cell? ⟨RB, 6, none⟩ = some (.string ⟨#[]⟩) := HRB4.out.cell 6
      have r7 : w4.frozen? ⟨RB, 7, none⟩ = false := HRB4.out.frozen 7
      have z7 : w4.cell? ⟨RB, 7, none⟩ = some (.slice none 0 0) := HRB4.out.cell 7
      have hlRB := HRB4.out.lt
      go_wp2_with fail
      refine bodyPost_ret (results_cell_row rfl _ _ RB 26 (fcs none (g : Fr).list.length 0 g) (0, 0) _ rfl ?_ Tryd.underlying26 rfl (by kernel_rfl)) rfl ?_
      · exact HP.out.1
      exact HP.out.2
    | none =>
      obtain rfl : is = false := by rw [← HIs.out, hsp]; rfl
      have HE0 := hide (rframe_own E1.out hsp)
      clear hsp
      have O2 : Hid (ROwn w2 w.heap.size none 0 []) := hide (ROwn.nil _ _)
      by_cases hk0 : x1 = 0
      · have HE1 := hide (HE0.out.trans (if_pos hk0))
        obtain ⟨z, hz⟩ : ∃ z, zeros l = z := ⟨_, rfl⟩
        obtain ⟨m, hm⟩ : ∃ m, min z 16383 = m := ⟨_, rfl⟩
        have hm16 : m ≤ 16383 := by omega
        have hm16i : (m : Int) ≤ 16383 := by omega
        obtain ⟨m1, hm1⟩ : ∃ m1, m + 1 = m1 := ⟨_, rfl⟩
        have hE : rframe st = ({ fr0 with kind := x1, a := m1 }, some (l.drop m)) := by
          rw [HE1.out]; unfold rpad; simp only [hz, hm, hm1]
        have HE := hide hE
        have hsl := HSl.out l rfl
        have hzl : z ≤ sr.size := by rw [← hz, ← hsl, ← bytes_len]; exact zeros_le _
        obtain ⟨y, hy⟩ : ∃ y : ByteArray, y.data.toList = dz sr.data.toList := ⟨⟨(dz sr.data.toList).toArray⟩, by simp⟩
        have hys : y.size = sr.size - z := by rw [← bytes_len, hy, dz_len, bytes_len, hsl, hz]
        have HT := hide (fun w => trim_any w sr y hy)
        have hd : (sr.size : Int) - y.size = (z : Nat) := by omega
        have hmi : min (z : Int) 16383 = (m : Nat) := by omega
        have hm1i : (m : Int) + 1 = (m1 : Nat) := by omega
        have hm1b : m1 ≤ 16384 := by omega
        have hml : m ≤ sr.size := by omega
        have hmli : (m : Int) ≤ sr.size := by omega
        have x2 : (sr.extract m sr.size).data.toList = l.drop m := by
          rw [Lib.extract_data, hsl, List.take_of_length_le (by rw [List.length_drop, ← hsl, bytes_len]; omega)]
        have x3 : (sr.extract m sr.size).size ≤ 1000000 := by rw [← bytes_len, x2, List.length_drop, ← hsl, bytes_len]; omega
        have hfz := HF2.out.set_a m1
        have hf4 : RF ((w2.setCell ⟨F, 1, none⟩ (.int .u64 (m1 : Nat))).setCell ⟨R, 0, none⟩ (.string (sr.extract m sr.size))) R F none 0 0 { fr0 with kind := x1, a := m1 } (some (l.drop m)) := by
          refine ⟨hfz.blk.far hfz.ne _, ?_⟩
          obtain ⟨s0, g1, g2, g3⟩ := hfz.rd
          exact RdO.mk' (g1.set_ 0 _) x3 rfl (fun k hk => by cases hk; exact x2)
        have hrb4 := (HRB2.out.far (p := ⟨F, 1, none⟩) (show RB ≠ F by omega) (.int .u64 (m1 : Nat))).far (p := ⟨R, 0, none⟩) (show RB ≠ R by omega) (.string (sr.extract m sr.size))
        have hm4 : Mod [R] w ((w2.setCell ⟨F, 1, none⟩ (.int .u64 (m1 : Nat))).setCell ⟨R, 0, none⟩ (.string (sr.extract m sr.size))) := (M2.out.setCell (p := ⟨F, 1, none⟩) (.inr (show w.heap.size ≤ F by have := HRB.out; omega)) _).setCell (p := ⟨R, 0, none⟩) (.inl (by simp)) _
        have HP := hide (fpost_al (g := { fr0 with kind := x1, a := m1 }) (.cells #[.int .i64 (n : Nat), .bool t, .int .i64 (x : Nat)] 72) hf4 hrb4 hm4 HRB.out HRR.out (ROwn.nil _ _) L0.out hE)
        have hkz : ((x1 : Int) == 0) = true := by simp; omega
        have f1 := HF2.out.blk.frozen 1
        have r0 : w2.frozen? ⟨RB, 0, none⟩ = false := HRB2.out.frozen 0
        have z0 : w2.cell? ⟨RB, 0, none⟩ = some (.int .u64 0) := HRB2.out.cell 0
        have r1 : w2.frozen? ⟨RB, 1, none⟩ = false := HRB2.out.frozen 1
        have z1 : w2.cell? ⟨RB, 1, none⟩ = some (.int .u64 0) := HRB2.out.cell 1
        have r2 : w2.frozen? ⟨RB, 2, none⟩ = false := HRB2.out.frozen 2
        have z2 : w2.cell? ⟨RB, 2, none⟩ = some (.int .u64 0) := HRB2.out.cell 2
        have r3 : w2.frozen? ⟨RB, 3, none⟩ = false := HRB2.out.frozen 3
        have z3 : w2.cell? ⟨RB, 3, none⟩ = some (.int .u64 0) := HRB2.out.cell 3
        have r4 : w2.frozen? ⟨RB, 4, none⟩ = false := HRB2.out.frozen 4
        have z4 : w2.cell? ⟨RB, 4, none⟩ = some (.bool false) := HRB2.out.cell 4
        have r5 : w2.frozen? ⟨RB, 5, none⟩ = false := HRB2.out.frozen 5
        have z5 : w2.cell? ⟨RB, 5, none⟩ = some (.string ⟨#[]⟩) := HRB2.out.cell 5
        have r6 : w2.frozen? ⟨RB, 6, none⟩ = false := HRB2.out.frozen 6
        have z6 : w2.cell? ⟨RB, 6, none⟩ = some (.string ⟨#[]⟩) := HRB2.out.cell 6
        have r7 : w2.frozen? ⟨RB, 7, none⟩ = false := HRB2.out.frozen 7
        have z7 : w2.cell? ⟨RB, 7, none⟩ = some (.slice none 0 0) := HRB2.out.cell 7
        have hlRB := HRB2.out.lt
        have c0 : w2.cell? ⟨F, 0, none⟩ = some (.int .u64 (x1 : Nat)) := HF2.out.blk.cell 0
        have c1 : w2.cell? ⟨F, 1, none⟩ = some (.int .u64 0) := HF2.out.blk.cell 1
        have c2 : w2.cell? ⟨F, 2, none⟩ = some (.int .u64 0) := HF2.out.blk.cell 2
        have c3 : w2.cell? ⟨F, 3, none⟩ = some (.int .u64 0) := HF2.out.blk.cell 3
        have c4 : w2.cell? ⟨F, 4, none⟩ = some (.bool false) := HF2.out.blk.cell 4
        have c5 : w2.cell? ⟨F, 5, none⟩ = some (.string ⟨#[]⟩) := HF2.out.blk.cell 5
        have c6 : w2.cell? ⟨F, 6, none⟩ = some (.string ⟨#[]⟩) := HF2.out.blk.cell 6
        have c7 : w2.cell? ⟨F, 7, none⟩ = some (.slice none 0 0) := HF2.out.blk.cell 7
        have hlF := HF2.out.blk.lt
        clear HF2 HRB2 M2 HF3 HRB3 M3 hsb3 O3 O2 hE hz hm hsl hzl hy hys x2 x3 hfz hf4 hrb4 hm4 HE0 HE1 hk0 hm1
        go_wp2_with fail
        refine (HT.out _).mono ?_
        rintro e w4 ⟨rfl, rfl⟩
        go_wp2_with fail
        refine bodyPost_ret (results_cell_row rfl _ _ RB 26 (fcs none 0 0 { fr0 with kind := x1, a := m1 }) (0, 0) _ rfl ?_ Tryd.underlying26 rfl (by kernel_rfl)) rfl ?_
        · exact HP.out.1
        exact HP.out.2
      · have hk0b : ((x1 : Int) == 0) = false := by simp; omega
        have HE1 := hide (HE0.out.trans (if_neg hk0))
        clear hk0 HE0 p0 u0
        have c0 : w2.cell? ⟨F, 0, none⟩ = some (.int .u64 (x1 : Nat)) := HF2.out.blk.cell 0
        have c1 : w2.cell? ⟨F, 1, none⟩ = some (.int .u64 0) := HF2.out.blk.cell 1
        have c2 : w2.cell? ⟨F, 2, none⟩ = some (.int .u64 0) := HF2.out.blk.cell 2
        have c3 : w2.cell? ⟨F, 3, none⟩ = some (.int .u64 0) := HF2.out.blk.cell 3
        have c4 : w2.cell? ⟨F, 4, none⟩ = some (.bool false) := HF2.out.blk.cell 4
        have c5 : w2.cell? ⟨F, 5, none⟩ = some (.string ⟨#[]⟩) := HF2.out.blk.cell 5
        have c6 : w2.cell? ⟨F, 6, none⟩ = some (.string ⟨#[]⟩) := HF2.out.blk.cell 6
        have c7 : w2.cell? ⟨F, 7, none⟩ = some (.slice none 0 0) := HF2.out.blk.cell 7
        have hlF := HF2.out.blk.lt
        by_cases hk2 : x1 = 2 ∨ x1 = 3
        · clear HF2 HRB2 M2
          have HE := hide (HE1.out.trans (if_pos hk2))
          have HC := hide (fun w h => racked_any w R F { fr0 with kind := x1 } (some l) rfl h)
          obtain ⟨g, s5, hg5⟩ : ∃ g s5, racked { fr0 with kind := x1 } (some l) = (g, s5) := ⟨_, _, rfl⟩
          rw [hg5] at HE HC
          clear hg5
          have FIN : ∀ w4, RPostR (w2.alloc (.cells #[.int .i64 (n : Nat), .bool t, .int .i64 (x : Nat)] 72)) R F (g, s5) w4 → ∃ A c, RF w4 R F A g.list.length c g s5 ∧ Blk w4 RB 26 (fcs none 0 0 fr0) ∧ Blk (fsets w4 RB (fcs A g.list.length c g)) RB 26 (fcs A g.list.length c g) ∧ FPost w R (rframe st) (.returned (.agg (fcs A g.list.length c g))) (fsets w4 RB (fcs A g.list.length c g)) := by
            rintro w4 ⟨A, c, h4, o4, l4, m4⟩
            have hrb4 := m4.blk HRB3.out (by simp; omega)
            have o4' := o4.base (B' := w.heap.size) (Nat.le_trans M3.out.size (Nat.le_refl _))
            have := fpost_mk h4 hrb4 (M3.out.trans m4 (by simp; have := HRB.out; omega)) HRB.out HRR.out o4' l4 HE.out
            exact ⟨A, c, h4, hrb4, this.1, this.2⟩
          have HFin := hide FIN
          clear FIN M3 HRB3 O3 HE
          rcases hk2 with rfl | rfl
          · go_wp2_with fail
            refine (HC.out _ HF3.out).mono ?_
            rintro e w4 ⟨rfl, hpo⟩
            obtain ⟨A, c, h4, hb4, hp1, hp2⟩ := HFin.out w4 hpo
            have HP := hide (And.intro hp1 hp2)
            have H4 := hide h4
            have HB4 := hide hb4
            clear hpo h4 hb4 hp1 hp2 c0 c1 c2 c3 c4 c5 c6 c7 hlF p1 u1 hlR
            have r0 : w4.frozen? ⟨RB, 0, none⟩ = false := HB4.out.frozen 0
            have z0 : w4.cell? ⟨RB, 0, none⟩ = some (.int .u64 0) := HB4.out.cell 0
            have r1 : w4.frozen? ⟨RB, 1, none⟩ = false := HB4.out.frozen 1
            have z1 : w4.cell? ⟨RB, 1, none⟩ = some (.int .u64 0) := HB4.out.cell 1
            have r2 : w4.frozen? ⟨RB, 2, none⟩ = false := HB4.out.frozen 2
            have z2 : w4.cell? ⟨RB, 2, none⟩ = some (.int .u64 0) := HB4.out.cell 2
            have r3 : w4.frozen? ⟨RB, 3, none⟩ = false := HB4.out.frozen 3
            have z3 : w4.cell? ⟨RB, 3, none⟩ = some (.int .u64 0) := HB4.out.cell 3
            have r4 : w4.frozen? ⟨RB, 4, none⟩ = false := HB4.out.frozen 4
            have z4 : w4.cell? ⟨RB, 4, none⟩ = some (.bool false) := HB4.out.cell 4
            have r5 : w4.frozen? ⟨RB, 5, none⟩ = false := HB4.out.frozen 5
            have z5 : w4.cell? ⟨RB, 5, none⟩ = some (.string ⟨#[]⟩) := HB4.out.cell 5
            have r6 : w4.frozen? ⟨RB, 6, none⟩ = false := HB4.out.frozen 6
            have z6 : w4.cell? ⟨RB, 6, none⟩ = some (.string ⟨#[]⟩) := HB4.out.cell 6
            have r7 : w4.frozen? ⟨RB, 7, none⟩ = false := HB4.out.frozen 7
            have z7 : w4.cell? ⟨RB, 7, none⟩ = some (.slice none 0 0) := HB4.out.cell 7
            have hlRB := HB4.out.lt
            have c0 : w4.cell? ⟨F, 0, none⟩ = some (.int .u64 (g.kind : Nat)) := H4.out.blk.cell 0
            have c1 : w4.cell? ⟨F, 1, none⟩ = some (.int .u64 (g.a : Nat)) := H4.out.blk.cell 1
            have c2 : w4.cell? ⟨F, 2, none⟩ = some (.int .u64 (g.b : Nat)) := H4.out.blk.cell 2
            have c3 : w4.cell? ⟨F, 3, none⟩ = some (.int .u64 (g.c : Nat)) := H4.out.blk.cell 3
            have c4 : w4.cell? ⟨F, 4, none⟩ = some (.bool g.fin) := H4.out.blk.cell 4
            have c5 : w4.cell? ⟨F, 5, none⟩ = some (.string g.data) := H4.out.blk.cell 5
            have c6 : w4.cell? ⟨F, 6, none⟩ = some (.string g.more) := H4.out.blk.cell 6
            have c7 : w4.cell? ⟨F, 7, none⟩ = some (.slice A g.list.length c) := H4.out.blk.cell 7
            have hlF := H4.out.blk.lt
            go_wp2_with fail
            refine bodyPost_ret (results_cell_row rfl _ _ RB 26 (fcs A g.list.length c g) (0, 0) _ rfl ?_ Tryd.underlying26 rfl (by kernel_rfl)) rfl ?_
            · exact HP.out.1
            exact HP.out.2

          · go_wp2_with fail
            refine (HC.out _ HF3.out).mono ?_
            rintro e w4 ⟨rfl, hpo⟩
            obtain ⟨A, c, h4, hb4, hp1, hp2⟩ := HFin.out w4 hpo
            have HP := hide (And.intro hp1 hp2)
            have H4 := hide h4
            have HB4 := hide hb4
            clear hpo h4 hb4 hp1 hp2 c0 c1 c2 c3 c4 c5 c6 c7 hlF p1 u1 hlR
            have r0 : w4.frozen? ⟨RB, 0, none⟩ = false := HB4.out.frozen 0
            have z0 : w4.cell? ⟨RB, 0, none⟩ = some (.int .u64 0) := HB4.out.cell 0
            have r1 : w4.frozen? ⟨RB, 1, none⟩ = false := HB4.out.frozen 1
            have z1 : w4.cell? ⟨RB, 1, none⟩ = some (.int .u64 0) := HB4.out.cell 1
            have r2 : w4.frozen? ⟨RB, 2, none⟩ = false := HB4.out.frozen 2
            have z2 : w4.cell? ⟨RB, 2, none⟩ = some (.int .u64 0) := HB4.out.cell 2
            have r3 : w4.frozen? ⟨RB, 3, none⟩ = false := HB4.out.frozen 3
            have z3 : w4.cell? ⟨RB, 3, none⟩ = some (.int .u64 0) := HB4.out.cell 3
            have r4 : w4.frozen? ⟨RB, 4, none⟩ = false := HB4.out.frozen 4
            have z4 : w4.cell? ⟨RB, 4, none⟩ = some (.bool false) := HB4.out.cell 4
            have r5 : w4.frozen? ⟨RB, 5, none⟩ = false := HB4.out.frozen 5
            have z5 : w4.cell? ⟨RB, 5, none⟩ = some (.string ⟨#[]⟩) := HB4.out.cell 5
            have r6 : w4.frozen? ⟨RB, 6, none⟩ = false := HB4.out.frozen 6
            have z6 : w4.cell? ⟨RB, 6, none⟩ = some (.string ⟨#[]⟩) := HB4.out.cell 6
            have r7 : w4.frozen? ⟨RB, 7, none⟩ = false := HB4.out.frozen 7
            have z7 : w4.cell? ⟨RB, 7, none⟩ = some (.slice none 0 0) := HB4.out.cell 7
            have hlRB := HB4.out.lt
            have c0 : w4.cell? ⟨F, 0, none⟩ = some (.int .u64 (g.kind : Nat)) := H4.out.blk.cell 0
            have c1 : w4.cell? ⟨F, 1, none⟩ = some (.int .u64 (g.a : Nat)) := H4.out.blk.cell 1
            have c2 : w4.cell? ⟨F, 2, none⟩ = some (.int .u64 (g.b : Nat)) := H4.out.blk.cell 2
            have c3 : w4.cell? ⟨F, 3, none⟩ = some (.int .u64 (g.c : Nat)) := H4.out.blk.cell 3
            have c4 : w4.cell? ⟨F, 4, none⟩ = some (.bool g.fin) := H4.out.blk.cell 4
            have c5 : w4.cell? ⟨F, 5, none⟩ = some (.string g.data) := H4.out.blk.cell 5
            have c6 : w4.cell? ⟨F, 6, none⟩ = some (.string g.more) := H4.out.blk.cell 6
            have c7 : w4.cell? ⟨F, 7, none⟩ = some (.slice A g.list.length c) := H4.out.blk.cell 7
            have hlF := H4.out.blk.lt
            go_wp2_with fail
            refine bodyPost_ret (results_cell_row rfl _ _ RB 26 (fcs A g.list.length c g) (0, 0) _ rfl ?_ Tryd.underlying26 rfl (by kernel_rfl)) rfl ?_
            · exact HP.out.1
            exact HP.out.2

        · have HE2 := hide (HE1.out.trans (if_neg hk2))
          have hk2b : ((x1 : Int) == 2) = false := by simp; omega
          have hk3b : ((x1 : Int) == 3) = false := by simp; omega
          have FINX : ∀ (g : Fr) (s5 : RS), rframe st = (g, s5) → g.list = [] → ∀ w4, RF w4 R F none 0 0 g s5 → Mod [R, F] (w2.alloc (.cells #[.int .i64 (n : Nat), .bool t, .int .i64 (x : Nat)] 72)) w4 → Blk w4 RB 26 (fcs none 0 0 fr0) ∧ Blk (fsets w4 RB (fcs none 0 0 g)) RB 26 (fcs none 0 0 g) ∧ FPost w R (rframe st) (.returned (.agg (fcs none 0 0 g))) (fsets w4 RB (fcs none 0 0 g)) := by
            intro g s5 hE hl w4 h4 m4
            have hl0 : g.list.length = 0 := by rw [hl]; rfl
            have hrb4 := m4.blk HRB3.out (by simp; omega)
            have := fpost_mk (A := none) (c := 0) (by rw [hl0]; exact h4) hrb4 (M3.out.trans m4 (by simp; have := HRB.out; omega)) HRB.out HRR.out (by rw [hl]; exact ROwn.nil _ _) (by omega) hE
            rw [hl0] at this
            exact ⟨hrb4, this.1, this.2⟩
          have HFinX := hide FINX
          clear FINX hk2 HE1
          by_cases hk8 : 8 ≤ x1 ∧ x1 < 16
          · clear HF2 HRB2 M2
            have HE := hide (HE2.out.trans (if_pos hk8))
            have HC := hide (fun w h => rstream_any w R F none 0 0 { fr0 with kind := x1 } (some l) h hk8.1 hk8.2)
            have hgl : (rstream { fr0 with kind := x1 } (some l)).1.list = [] := rfl
            obtain ⟨g, s5, hg5⟩ : ∃ g s5, rstream { fr0 with kind := x1 } (some l) = (g, s5) := ⟨_, _, rfl⟩
            rw [hg5] at HE HC hgl
            have HGl := hide hgl
            have hk8i : (8 : Int) ≤ x1 := by omega
            have hk16i : (x1 : Int) < 16 := by omega
            clear hg5 hgl hk8 HE2 M3 HRB3 O3
            go_wp2_with fail
            refine (HC.out _ HF3.out).mono ?_
            rintro e w4 ⟨rfl, h4, m4⟩
            obtain ⟨hb4, hp1, hp2⟩ := HFinX.out _ _ HE.out HGl.out w4 h4 m4
            have HP := hide (And.intro hp1 hp2)
            have H4 := hide h4
            have HB4 := hide hb4
            clear h4 m4 hb4 hp1 hp2 c0 c1 c2 c3 c4 c5 c6 c7 hlF p1 u1 hlR
            have r0 : w4.frozen? ⟨RB, 0, none⟩ = false := HB4.out.frozen 0
            have z0 : w4.cell? ⟨RB, 0, none⟩ = some (.int .u64 0) := HB4.out.cell 0
            have r1 : w4.frozen? ⟨RB, 1, none⟩ = false := HB4.out.frozen 1
            have z1 : w4.cell? ⟨RB, 1, none⟩ = some (.int .u64 0) := HB4.out.cell 1
            have r2 : w4.frozen? ⟨RB, 2, none⟩ = false := HB4.out.frozen 2
            have z2 : w4.cell? ⟨RB, 2, none⟩ = some (.int .u64 0) := HB4.out.cell 2
            have r3 : w4.frozen? ⟨RB, 3, none⟩ = false := HB4.out.frozen 3
            have z3 : w4.cell? ⟨RB, 3, none⟩ = some (.int .u64 0) := HB4.out.cell 3
            have r4 : w4.frozen? ⟨RB, 4, none⟩ = false := HB4.out.frozen 4
            have z4 : w4.cell? ⟨RB, 4, none⟩ = some (.bool false) := HB4.out.cell 4
            have r5 : w4.frozen? ⟨RB, 5, none⟩ = false := HB4.out.frozen 5
            have z5 : w4.cell? ⟨RB, 5, none⟩ = some (.string ⟨#[]⟩) := HB4.out.cell 5
            have r6 : w4.frozen? ⟨RB, 6, none⟩ = false := HB4.out.frozen 6
            have z6 : w4.cell? ⟨RB, 6, none⟩ = some (.string ⟨#[]⟩) := HB4.out.cell 6
            have r7 : w4.frozen? ⟨RB, 7, none⟩ = false := HB4.out.frozen 7
            have z7 : w4.cell? ⟨RB, 7, none⟩ = some (.slice none 0 0) := HB4.out.cell 7
            have hlRB := HB4.out.lt
            have c0 : w4.cell? ⟨F, 0, none⟩ = some (.int .u64 (g.kind : Nat)) := H4.out.blk.cell 0
            have c1 : w4.cell? ⟨F, 1, none⟩ = some (.int .u64 (g.a : Nat)) := H4.out.blk.cell 1
            have c2 : w4.cell? ⟨F, 2, none⟩ = some (.int .u64 (g.b : Nat)) := H4.out.blk.cell 2
            have c3 : w4.cell? ⟨F, 3, none⟩ = some (.int .u64 (g.c : Nat)) := H4.out.blk.cell 3
            have c4 : w4.cell? ⟨F, 4, none⟩ = some (.bool g.fin) := H4.out.blk.cell 4
            have c5 : w4.cell? ⟨F, 5, none⟩ = some (.string g.data) := H4.out.blk.cell 5
            have c6 : w4.cell? ⟨F, 6, none⟩ = some (.string g.more) := H4.out.blk.cell 6
            have c7 : w4.cell? ⟨F, 7, none⟩ = some (.slice none 0 0) := H4.out.blk.cell 7
            have hlF := H4.out.blk.lt
            go_wp2_with fail
            refine bodyPost_ret (results_cell_row rfl _ _ RB 26 (fcs none 0 0 g) (0, 0) _ rfl ?_ Tryd.underlying26 rfl (by kernel_rfl)) rfl ?_
            · exact HP.out.1
            exact HP.out.2

          · have HE3 := hide (HE2.out.trans (if_neg hk8))
            by_cases hk24 : x1 = 24
            · clear HF2 HRB2 M2
              have HE := hide (HE3.out.trans (if_pos hk24))
              have HC := hide (fun w h => rcid_any w R F none 0 0 { fr0 with kind := x1 } (some l) h)
              have hgl : (rcid { fr0 with kind := x1 } (some l)).1.list = [] := rcid_list _ _
              obtain ⟨g, s5, hg5⟩ : ∃ g s5, rcid { fr0 with kind := x1 } (some l) = (g, s5) := ⟨_, _, rfl⟩
              rw [hg5] at HE HC hgl
              have HGl := hide hgl
              have hk24b : ((x1 : Int) == 24) = true := by simp; omega
              have hk16i : ¬ (x1 : Int) < 16 := by omega
              have hk8i : (8 : Int) ≤ x1 := by omega
              clear hg5 hgl hk8 hk24 HE2 HE3 M3 HRB3 O3
              go_wp2_with fail
              refine (HC.out _ HF3.out).mono ?_
              rintro e w4 ⟨rfl, h4, m4⟩
              obtain ⟨hb4, hp1, hp2⟩ := HFinX.out _ _ HE.out HGl.out w4 h4 m4
              have HP := hide (And.intro hp1 hp2)
              have H4 := hide h4
              have HB4 := hide hb4
              clear h4 m4 hb4 hp1 hp2 c0 c1 c2 c3 c4 c5 c6 c7 hlF p1 u1 hlR
              have r0 : w4.frozen? ⟨RB, 0, none⟩ = false := HB4.out.frozen 0
              have z0 : w4.cell? ⟨RB, 0, none⟩ = some (.int .u64 0) := HB4.out.cell 0
              have r1 : w4.frozen? ⟨RB, 1, none⟩ = false := HB4.out.frozen 1
              have z1 : w4.cell? ⟨RB, 1, none⟩ = some (.int .u64 0) := HB4.out.cell 1
              have r2 : w4.frozen? ⟨RB, 2, none⟩ = false := HB4.out.frozen 2
              have z2 : w4.cell? ⟨RB, 2, none⟩ = some (.int .u64 0) := HB4.out.cell 2
              have r3 : w4.frozen? ⟨RB, 3, none⟩ = false := HB4.out.frozen 3
              have z3 : w4.cell? ⟨RB, 3, none⟩ = some (.int .u64 0) := HB4.out.cell 3
              have r4 : w4.frozen? ⟨RB, 4, none⟩ = false := HB4.out.frozen 4
              have z4 : w4.cell? ⟨RB, 4, none⟩ = some (.bool false) := HB4.out.cell 4
              have r5 : w4.frozen? ⟨RB, 5, none⟩ = false := HB4.out.frozen 5
              have z5 : w4.cell? ⟨RB, 5, none⟩ = some (.string ⟨#[]⟩) := HB4.out.cell 5
              have r6 : w4.frozen? ⟨RB, 6, none⟩ = false := HB4.out.frozen 6
              have z6 : w4.cell? ⟨RB, 6, none⟩ = some (.string ⟨#[]⟩) := HB4.out.cell 6
              have r7 : w4.frozen? ⟨RB, 7, none⟩ = false := HB4.out.frozen 7
              have z7 : w4.cell? ⟨RB, 7, none⟩ = some (.slice none 0 0) := HB4.out.cell 7
              have hlRB := HB4.out.lt
              have c0 : w4.cell? ⟨F, 0, none⟩ = some (.int .u64 (g.kind : Nat)) := H4.out.blk.cell 0
              have c1 : w4.cell? ⟨F, 1, none⟩ = some (.int .u64 (g.a : Nat)) := H4.out.blk.cell 1
              have c2 : w4.cell? ⟨F, 2, none⟩ = some (.int .u64 (g.b : Nat)) := H4.out.blk.cell 2
              have c3 : w4.cell? ⟨F, 3, none⟩ = some (.int .u64 (g.c : Nat)) := H4.out.blk.cell 3
              have c4 : w4.cell? ⟨F, 4, none⟩ = some (.bool g.fin) := H4.out.blk.cell 4
              have c5 : w4.cell? ⟨F, 5, none⟩ = some (.string g.data) := H4.out.blk.cell 5
              have c6 : w4.cell? ⟨F, 6, none⟩ = some (.string g.more) := H4.out.blk.cell 6
              have c7 : w4.cell? ⟨F, 7, none⟩ = some (.slice none 0 0) := H4.out.blk.cell 7
              have hlF := H4.out.blk.lt
              go_wp2_with fail
              refine bodyPost_ret (results_cell_row rfl _ _ RB 26 (fcs none 0 0 g) (0, 0) _ rfl ?_ Tryd.underlying26 rfl (by kernel_rfl)) rfl ?_
              · exact HP.out.1
              exact HP.out.2

            · have HE := hide (HE3.out.trans (if_neg hk24))
              have hk24b : ((x1 : Int) == 24) = false := by simp; omega
              have hk8i : (decide ((8 : Int) ≤ x1) && decide ((x1 : Int) < 16)) = false := by
                rw [Bool.and_eq_false_iff]
                by_cases h : 8 ≤ x1
                · right; exact decide_eq_false (by omega)
                · left; exact decide_eq_false (by omega)
              have hf4 := HF2.out.set_bad true none (.inl ⟨rfl, rfl⟩)
              have hrb5 := HRB2.out.far (p := ⟨R, 1, none⟩) (show RB ≠ R by omega) (.bool true)
              have h5 : Mod [R] w (w2.setCell ⟨R, 1, none⟩ (.bool true)) := M2.out.setCell (p := ⟨R, 1, none⟩) (.inl (by simp)) _
              have HP := hide (fpost_al (g := { fr0 with kind := x1 }) (.cells #[.int .i64 (n : Nat), .bool t, .int .i64 (x : Nat)] 72) hf4 hrb5 h5 HRB.out HRR.out (ROwn.nil _ _) L0.out HE.out)
              have r0 : w2.frozen? ⟨RB, 0, none⟩ = false := HRB2.out.frozen 0
              have z0 : w2.cell? ⟨RB, 0, none⟩ = some (.int .u64 0) := HRB2.out.cell 0
              have r1 : w2.frozen? ⟨RB, 1, none⟩ = false := HRB2.out.frozen 1
              have z1 : w2.cell? ⟨RB, 1, none⟩ = some (.int .u64 0) := HRB2.out.cell 1
              have r2 : w2.frozen? ⟨RB, 2, none⟩ = false := HRB2.out.frozen 2
              have z2 : w2.cell? ⟨RB, 2, none⟩ = some (.int .u64 0) := HRB2.out.cell 2
              have r3 : w2.frozen? ⟨RB, 3, none⟩ = false := HRB2.out.frozen 3
              have z3 : w2.cell? ⟨RB, 3, none⟩ = some (.int .u64 0) := HRB2.out.cell 3
              have r4 : w2.frozen? ⟨RB, 4, none⟩ = false := HRB2.out.frozen 4
              have z4 : w2.cell? ⟨RB, 4, none⟩ = some (.bool false) := HRB2.out.cell 4
              have r5 : w2.frozen? ⟨RB, 5, none⟩ = false := HRB2.out.frozen 5
              have z5 : w2.cell? ⟨RB, 5, none⟩ = some (.string ⟨#[]⟩) := HRB2.out.cell 5
              have r6 : w2.frozen? ⟨RB, 6, none⟩ = false := HRB2.out.frozen 6
              have z6 : w2.cell? ⟨RB, 6, none⟩ = some (.string ⟨#[]⟩) := HRB2.out.cell 6
              have r7 : w2.frozen? ⟨RB, 7, none⟩ = false := HRB2.out.frozen 7
              have z7 : w2.cell? ⟨RB, 7, none⟩ = some (.slice none 0 0) := HRB2.out.cell 7
              have hlRB := HRB2.out.lt
              clear HF2 HRB2 M2 hk8i
              by_cases h8 : 8 ≤ x1
              · have a8 : (8 : Int) ≤ x1 := by omega
                have a16 : ¬ (x1 : Int) < 16 := by omega
                clear HE HE2 HE3 hk24 hk8 HF3 HRB3 M3 hsb3 O3 hf4 h5 hrb5 O2
                go_wp2_with fail
                refine bodyPost_ret (results_cell_row rfl _ _ RB 26 (fcs none 0 0 { fr0 with kind := x1 }) (0, 0) _ rfl ?_ Tryd.underlying26 rfl (by kernel_rfl)) rfl ?_
                · exact HP.out.1
                exact HP.out.2
              · have a8 : ¬ (8 : Int) ≤ x1 := by omega
                clear HE HE2 HE3 hk24 hk8 HF3 HRB3 M3 hsb3 O3 hf4 h5 hrb5 O2
                go_wp2_with fail
                refine bodyPost_ret (results_cell_row rfl _ _ RB 26 (fcs none 0 0 { fr0 with kind := x1 }) (0, 0) _ rfl ?_ Tryd.underlying26 rfl (by kernel_rfl)) rfl ?_
                · exact HP.out.1
                exact HP.out.2

end Go.Proofs.YtbjmcnmcodbkdaaDoor

/-
  frames: Read.
-/
namespace Go.Proofs.YtbjmcnmcodbkdaaDoor
open Go.RowKit

theorem results_cell_tmp2_row {P : Program} {fn : Func} {p u v : Tmp} {ty : TypeId} (h : fn.results = #[.cell p ty, .tmp u, .tmp v]) (tmps : Array Value) (w : World) (g : Nat) (t : TypeId) (cs : Array Value) (d : TypeDesc)
    (hp : tmps.getD p undef = .pointer (some ⟨g, 0, none⟩)) (hg : Blk w g t cs) (hu : P.underlying ty = some d) (hd : (match d with | .struct _ | .array _ _ => true | _ => false) = true) (hi : (P.info? ty).map (·.size) = some cs.size) :
    (results fn tmps).run P w = .ok (.tuple #[.agg cs, tmps.getD u undef, tmps.getD v undef]) w := by
  have e : (results fn tmps).run P w = ((asAddr (tmps.getD p undef)).run P w).andThen fun a w₁ => ((loadVar ty a).run P w₁).andThen fun x w₂ => .ok (.tuple #[x, tmps.getD u undef, tmps.getD v undef]) w₂ := by
    simp only [results, h]
    simp [Sem.run_bind, Result.andThen]
  rw [e, hp]
  show ((loadVar ty ⟨g, 0, none⟩).run P w).andThen _ = _
  rw [run_loadVar_row w g t ty cs (0, 0) d hg hu hd hi]
  rfl
/-- what Read tells -/
def frd (s : List UInt8) : Fr × List UInt8 × Int := if s = [] then (fr0, [], 10) else match fread s with | some x => (x.1, x.2, 0) | none => (fr0, [], 2)
theorem frd_bad {s : List UInt8} {g : Fr} (h : rframe (some s) = (g, none)) (hs : s ≠ []) : frd s = (fr0, [], 2) := by
  have h1 := rframe_some s
  unfold frd fread
  rw [if_neg hs]
  cases hp : pframe s with
  | none => rfl
  | some x =>
    rw [hp] at h1
    simp only at h1
    rw [h] at h1
    cases h1
theorem frd_not {s r : List UInt8} {g : Fr} (h : rframe (some s) = (g, some r)) (hs : s ≠ []) (hm : fmay g = false) : frd s = (fr0, [], 2) := by
  have h1 := rframe_some s
  unfold frd fread
  rw [if_neg hs]
  cases hp : pframe s with
  | none => rfl
  | some x =>
    rw [hp] at h1
    simp only at h1
    rw [h] at h1
    cases h1
    simp [hm]
theorem frd_yes {s r : List UInt8} {g : Fr} (h : rframe (some s) = (g, some r)) (hs : s ≠ []) (hm : fmay g = true) : frd s = (g, r, 0) := by
  have h1 := rframe_some s
  unfold frd fread
  rw [if_neg hs]
  cases hp : pframe s with
  | none => rw [hp] at h1; simp only at h1; rw [h] at h1; cases h1
  | some x =>
    rw [hp] at h1
    simp only at h1
    rw [h] at h1
    cases h1
    simp [hm]
def RdPost (w : World) (x : Fr × List UInt8 × Int) (e : Ending) (w' : World) : Prop :=
  ∃ A c, e = .returned (.tuple #[fval A x.1.list.length c x.1, str x.2.1, .int .i64 x.2.2]) ∧ ROwn w' w.heap.size A c x.1.list ∧ x.1.list.length ≤ 64 ∧ Mod [] w w'
theorem RdPost.zero {w w' : World} {x : Fr × List UInt8 × Int} {er : Int} (e : x = (fr0, [], er)) (m : Mod [] w w') : RdPost w x (.returned (.tuple #[.agg (fcs none 0 0 fr0), .string ⟨#[]⟩, .int .i64 er])) w' := by
  subst e
  exact ⟨none, 0, rfl, ROwn.nil _ _, by simp [fr0], m⟩

set_option maxRecDepth 100000 in
set_option maxHeartbeats 8000000 in
theorem read_any (w : World) (x : ByteArray) (hx : x.size ≤ 1000000) :
    Calls Tryd.prog 10 #[.string x] w (RdPost w (frd x.data.toList)) := by
  have hes := empty_size x
  by_cases h0 : x.size = 0
  · rw [decide_eq_true h0] at hes
    have hE : frd x.data.toList = (fr0, [], 10) := by rw [size0 h0]; rfl
    have HE := hide hE
    have HP := hide (fsets_blk (fcs none 0 0 fr0) (Blk.new w 26 (fcs none 0 0 fr0)) rfl rfl)
    clear h0 hE
    go_enter Tryd.func10, Tryd.ntmps10
    go_wp2_with fail
    refine bodyPost_ret (results_cell_tmp2_row rfl _ _ w.heap.size 26 (fcs none 0 0 fr0) _ rfl ?_ Tryd.underlying26 rfl (by kernel_rfl)) rfl ?_
    · exact Blk.new _ _ _
    exact RdPost.zero HE.out ((Mod.refl _ _).alloc _)
  · rw [decide_eq_false h0] at hes
    have hne : x.data.toList ≠ [] := by
      intro h
      have := bytes_len x
      rw [h] at this
      simp at this; omega
    have HNe := hide hne
    have hrb0 : Blk ((w.alloc (.cells (fcs none 0 0 fr0) 26)).alloc (.cells #[.string x, .bool false] 50)) w.heap.size 26 (fcs none 0 0 fr0) := (Blk.new _ _ _).alloc _
    have hrd0 : RdO ((w.alloc (.cells (fcs none 0 0 fr0) 26)).alloc (.cells #[.string x, .bool false] 50)) (w.heap.size + 1) (some x.data.toList) := by
      have := Blk.new (w.alloc (.cells (fcs none 0 0 fr0) 26)) 50 #[.string x, .bool false]
      rw [World.size_alloc] at this
      exact ⟨x, this, hx, fun l h => by cases h; rfl⟩
    have hm0 : Mod [] w ((w.alloc (.cells (fcs none 0 0 fr0) 26)).alloc (.cells #[.string x, .bool false] 50)) := ((Mod.refl _ _).alloc _).alloc _
    have HRb0 := hide hrb0
    have HRd0 := hide hrd0
    have HM0 := hide hm0
    have HF := hide (rframe_any _ _ _ hrd0)
    clear hne hrb0 hrd0 hm0 h0
    go_enter Tryd.func10, Tryd.ntmps10
    go_wp2_with fail
    refine HF.out.mono ?_
    rintro e w2 ⟨A, c, rfl, h2, o2, l2, m2⟩
    obtain ⟨g, s2, hg⟩ : ∃ g s2, rframe (some x.data.toList) = (g, s2) := ⟨_, _, rfl⟩
    rw [hg] at h2 o2 l2
    rw [hg]
    simp only at h2 o2 l2 ⊢
    have hrb2 := m2.blk HRb0.out (by simp)
    have m2' : Mod [] w w2 := HM0.out.trans m2 (by simp)
    have ho2 : ROwn w2 w.heap.size A c g.list := o2.base HM0.out.size
    obtain ⟨RB, hRBe⟩ : ∃ RB, w.heap.size = RB := ⟨_, rfl⟩
    have hRB : w.heap.size ≤ RB := by omega
    rw [hRBe] at hrb2 h2
    simp only [hRBe]
    have H2 := hide h2
    have HRB2 := hide hrb2
    have M2 := hide m2'
    have HO2 := hide ho2
    have HL2 := hide l2
    have HG := hide hg
    have HRB := hide hRB
    clear h2 o2 l2 m2 hg hrb2 m2' ho2 hRBe hRB HF HRb0 HRd0 HM0
    obtain ⟨sr, p0, p1, u0, u1, hlR, hsr, hsl⟩ : ∃ s : ByteArray, w2.cell? ⟨RB + 1, 0, none⟩ = some (.string s) ∧ w2.cell? ⟨RB + 1, 1, none⟩ = some (.bool s2.isNone) ∧ w2.frozen? ⟨RB + 1, 0, none⟩ = false ∧ w2.frozen? ⟨RB + 1, 1, none⟩ = false ∧ RB + 1 < w2.heap.size ∧ s.size ≤ 1000000 ∧ ∀ l, s2 = some l → s.data.toList = l := by
      obtain ⟨s, h1, h2, h3⟩ := H2.out
      exact ⟨s, h1.cell 0, h1.cell 1, h1.frozen 0, h1.frozen 1, h1.lt, h2, h3⟩
    have HSl := hide hsl
    clear hsl
    unfold fval fcs
    have hfb : Blk (w2.alloc (.cells (fcs A g.list.length c g) 26)) w2.heap.size 26 (fcs A g.list.length c g) := Blk.new _ _ _
    have hm3 : Mod [] w (w2.alloc (.cells (fcs A g.list.length c g) 26)) := M2.out.alloc _
    have ho3 : ROwn (w2.alloc (.cells (fcs A g.list.length c g) 26)) w.heap.size A c g.list := HO2.out.mod ((Mod.refl [] w2).alloc _) (by simp)
    have HM3 := hide hm3
    have HO3 := hide ho3
    have HFB := hide hfb
    clear hm3 ho3 hfb
    have r0 : w2.frozen? ⟨RB, 0, none⟩ = false := HRB2.out.frozen 0
    have z0 : w2.cell? ⟨RB, 0, none⟩ = some (.int .u64 0) := HRB2.out.cell 0
    have r1 : w2.frozen? ⟨RB, 1, none⟩ = false := HRB2.out.frozen 1
    have z1 : w2.cell? ⟨RB, 1, none⟩ = some (.int .u64 0) := HRB2.out.cell 1
    have r2 : w2.frozen? ⟨RB, 2, none⟩ = false := HRB2.out.frozen 2
    have z2 : w2.cell? ⟨RB, 2, none⟩ = some (.int .u64 0) := HRB2.out.cell 2
    have r3 : w2.frozen? ⟨RB, 3, none⟩ = false := HRB2.out.frozen 3
    have z3 : w2.cell? ⟨RB, 3, none⟩ = some (.int .u64 0) := HRB2.out.cell 3
    have r4 : w2.frozen? ⟨RB, 4, none⟩ = false := HRB2.out.frozen 4
    have z4 : w2.cell? ⟨RB, 4, none⟩ = some (.bool false) := HRB2.out.cell 4
    have r5 : w2.frozen? ⟨RB, 5, none⟩ = false := HRB2.out.frozen 5
    have z5 : w2.cell? ⟨RB, 5, none⟩ = some (.string ⟨#[]⟩) := HRB2.out.cell 5
    have r6 : w2.frozen? ⟨RB, 6, none⟩ = false := HRB2.out.frozen 6
    have z6 : w2.cell? ⟨RB, 6, none⟩ = some (.string ⟨#[]⟩) := HRB2.out.cell 6
    have r7 : w2.frozen? ⟨RB, 7, none⟩ = false := HRB2.out.frozen 7
    have z7 : w2.cell? ⟨RB, 7, none⟩ = some (.slice none 0 0) := HRB2.out.cell 7
    have hlRB := HRB2.out.lt
    cases s2 with
    | none =>
      simp only [Option.isNone_none] at p1
      have HE := hide (frd_bad HG.out HNe.out)
      have hb := (fsets_blk (fcs none 0 0 fr0) HRB2.out rfl rfl).alloc (.cells (fcs A g.list.length c g) 26)
      have hm := (M2.out.trans (fsets_mod w2 RB (fcs none 0 0 fr0)) (by simp; exact HRB.out)).alloc (.cells (fcs A g.list.length c g) 26)
      have HP := hide (And.intro hb hm)
      clear hb hm
      go_wp2_with fail
      refine bodyPost_ret (results_cell_tmp2_row rfl _ _ RB 26 (fcs none 0 0 fr0) _ rfl ?_ Tryd.underlying26 rfl (by kernel_rfl)) rfl ?_
      · exact HP.out.1
      exact RdPost.zero HE.out HP.out.2
    | some r =>
      simp only [Option.isNone_some] at p1
      cases hmay : fmay g with
      | false =>
        have HE := hide (frd_not HG.out HNe.out hmay)
        have HMay := hide (fun w' (h : Rngs w' A g.list.length g.list) => may_any w' A g.list.length c g h false hmay)
        have HRg := hide (HO3.out.rngs (by have := HL2.out; omega))
        clear hmay
        unfold fval fcs at HMay
        go_wp2_with fail
        refine (HMay.out _ HRg.out).mono ?_
        rintro e w4 ⟨rfl, m4⟩
        have hrb4 := m4.blk (HRB2.out.alloc _) (by simp)
        have HRB4 := hide hrb4
        have hb := (fsets_blk (fcs none 0 0 fr0) hrb4 rfl rfl)
        have hm := ((HM3.out.trans m4 (by simp)).trans (fsets_mod w4 RB (fcs none 0 0 fr0)) (by simp; exact HRB.out))
        have HP := hide (And.intro hb hm)
        clear hb hm hrb4 m4 r0 r1 r2 r3 r4 r5 r6 r7 z0 z1 z2 z3 z4 z5 z6 z7 hlRB
        have r0 : w4.frozen? ⟨RB, 0, none⟩ = false := HRB4.out.frozen 0
        have z0 : w4.cell? ⟨RB, 0, none⟩ = some (.int .u64 0) := HRB4.out.cell 0
        have r1 : w4.frozen? ⟨RB, 1, none⟩ = false := HRB4.out.frozen 1
        have z1 : w4.cell? ⟨RB, 1, none⟩ = some (.int .u64 0) := HRB4.out.cell 1
        have r2 : w4.frozen? ⟨RB, 2, none⟩ = false := HRB4.out.frozen 2
        have z2 : w4.cell? ⟨RB, 2, none⟩ = some (.int .u64 0) := HRB4.out.cell 2
        have r3 : w4.frozen? ⟨RB, 3, none⟩ = false := HRB4.out.frozen 3
        have z3 : w4.cell? ⟨RB, 3, none⟩ = some (.int .u64 0) := HRB4.out.cell 3
        have r4 : w4.frozen? ⟨RB, 4, none⟩ = false := HRB4.out.frozen 4
        have z4 : w4.cell? ⟨RB, 4, none⟩ = some (.bool false) := HRB4.out.cell 4
        have r5 : w4.frozen? ⟨RB, 5, none⟩ = false := HRB4.out.frozen 5
        have z5 : w4.cell? ⟨RB, 5, none⟩ = some (.string ⟨#[]⟩) := HRB4.out.cell 5
        have r6 : w4.frozen? ⟨RB, 6, none⟩ = false := HRB4.out.frozen 6
        have z6 : w4.cell? ⟨RB, 6, none⟩ = some (.string ⟨#[]⟩) := HRB4.out.cell 6
        have r7 : w4.frozen? ⟨RB, 7, none⟩ = false := HRB4.out.frozen 7
        have z7 : w4.cell? ⟨RB, 7, none⟩ = some (.slice none 0 0) := HRB4.out.cell 7
        have hlRB := HRB4.out.lt
        go_wp2_with fail
        refine bodyPost_ret (results_cell_tmp2_row rfl _ _ RB 26 (fcs none 0 0 fr0) _ rfl ?_ Tryd.underlying26 rfl (by kernel_rfl)) rfl ?_
        · exact HP.out.1
        exact RdPost.zero HE.out HP.out.2
      | true =>
        have HE := hide (frd_yes HG.out HNe.out hmay)
        have HMay := hide (fun w' (h : Rngs w' A g.list.length g.list) => may_any w' A g.list.length c g h true hmay)
        have HRg := hide (HO3.out.rngs (by have := HL2.out; omega))
        clear hmay
        unfold fval fcs at HMay
        go_wp2_with fail
        refine (HMay.out _ HRg.out).mono ?_
        rintro e w4 ⟨rfl, m4⟩
        have hrb4 := m4.blk (HRB2.out.alloc _) (by simp)
        have HRB4 := hide hrb4
        obtain ⟨q0, q1, q2, q3, q4, q5, q6, q7⟩ := fcells (m4.blk HFB.out (by simp))
        have hlF := (m4.blk HFB.out (by simp)).lt
        have hb := (fsets_blk (fcs A g.list.length c g) hrb4 rfl rfl)
        have hm := ((HM3.out.trans m4 (by simp)).trans (fsets_mod w4 RB (fcs A g.list.length c g)) (by simp; exact HRB.out))
        have hom : Mod [RB] (w2.alloc (.cells (fcs A g.list.length c g) 26)) (fsets w4 RB (fcs A g.list.length c g)) := (m4.mono (by simp)).trans (fsets_mod w4 RB (fcs A g.list.length c g)) (by simp)
        have ho := HO3.out.mod hom (fun g' o' hA hmem => by
          have := HO3.out.ne (HRB2.out.alloc (.cells (fcs A g.list.length c g) 26)) (by decide) g' o' hA
          exact this (List.mem_singleton.1 hmem))
        have hsw := (HRB2.out.alloc (.cells (fcs A g.list.length c g) 26)).lt
        have hR4 : RB + 1 < w4.heap.size := Nat.lt_of_lt_of_le hlR (Nat.le_trans (by simp) m4.size)
        have p04 : w4.cell? ⟨RB + 1, 0, none⟩ = some (.string sr) := by
          have h1 := m4.cell (p := ⟨RB + 1, 0, none⟩) (by simp; omega) (by simp)
          have h2 := ((Mod.refl [] w2).alloc (.cells (fcs A g.list.length c g) 26)).cell (p := ⟨RB + 1, 0, none⟩) hlR (by simp)
          exact h1.trans (h2.trans p0)
        have hsr2 := HSl.out r rfl
        have HSr := hide hsr2
        have HP := hide (And.intro (Blk.drew hb) (And.intro (Mod.drew hm) (ROwn.mod ho ((Mod.refl [] _).drew) (by simp))))
        clear hb hm ho hom hrb4 m4 hsr2 hsw r0 r1 r2 r3 r4 r5 r6 r7 z0 z1 z2 z3 z4 z5 z6 z7 hlRB p0 p1 u0 u1 hlR
        have r0 : w4.frozen? ⟨RB, 0, none⟩ = false := HRB4.out.frozen 0
        have z0 : w4.cell? ⟨RB, 0, none⟩ = some (.int .u64 0) := HRB4.out.cell 0
        have r1 : w4.frozen? ⟨RB, 1, none⟩ = false := HRB4.out.frozen 1
        have z1 : w4.cell? ⟨RB, 1, none⟩ = some (.int .u64 0) := HRB4.out.cell 1
        have r2 : w4.frozen? ⟨RB, 2, none⟩ = false := HRB4.out.frozen 2
        have z2 : w4.cell? ⟨RB, 2, none⟩ = some (.int .u64 0) := HRB4.out.cell 2
        have r3 : w4.frozen? ⟨RB, 3, none⟩ = false := HRB4.out.frozen 3
        have z3 : w4.cell? ⟨RB, 3, none⟩ = some (.int .u64 0) := HRB4.out.cell 3
        have r4 : w4.frozen? ⟨RB, 4, none⟩ = false := HRB4.out.frozen 4
        have z4 : w4.cell? ⟨RB, 4, none⟩ = some (.bool false) := HRB4.out.cell 4
        have r5 : w4.frozen? ⟨RB, 5, none⟩ = false := HRB4.out.frozen 5
        have z5 : w4.cell? ⟨RB, 5, none⟩ = some (.string ⟨#[]⟩) := HRB4.out.cell 5
        have r6 : w4.frozen? ⟨RB, 6, none⟩ = false := HRB4.out.frozen 6
        have z6 : w4.cell? ⟨RB, 6, none⟩ = some (.string ⟨#[]⟩) := HRB4.out.cell 6
        have r7 : w4.frozen? ⟨RB, 7, none⟩ = false := HRB4.out.frozen 7
        have z7 : w4.cell? ⟨RB, 7, none⟩ = some (.slice none 0 0) := HRB4.out.cell 7
        have hlRB := HRB4.out.lt
        go_wp2_with fail
        go_region
        all_goals
          go_wp2_with fail
          refine bodyPost_ret (results_cell_tmp2_row rfl _ _ RB 26 (fcs A g.list.length c g) _ rfl ?_ Tryd.underlying26 rfl (by kernel_rfl)) rfl ?_
          · exact HP.out.1
          rw [HE.out]
          refine ⟨A, c, ?_, HP.out.2.2, HL2.out, HP.out.2.1⟩
          have e1 : str r = .string sr := by unfold str; rw [← HSr.out, eta_bytes]
          rw [e1]
          rfl
end Go.Proofs.YtbjmcnmcodbkdaaDoor

/-
  frames: many, plain, and in memory.
-/
namespace Go.Proofs.YtbjmcnmcodbkdaaDoor
open Go.RowKit

theorem fbytes_ne {f : Fr} (h : fmay f = true) : fbytes f ≠ [] := by
  intro h0
  have h1 := pframe_put h [] (fun _ => .inr rfl)
  rw [h0] at h1
  cases h1
theorem fread_lt {s r : List UInt8} {f : Fr} (h : fread s = some (f, r)) : r.length < s.length := by
  obtain ⟨h1, rfl, _⟩ := fread_some h
  have := List.length_pos_iff.2 (fbytes_ne h1)
  rw [List.length_append]
  omega
def fallN : Nat → List UInt8 → Option (List Fr)
  | 0, _ => none
  | k + 1, s => (fread s).bind fun x => if x.2 = [] then some [x.1] else (fallN k x.2).map (x.1 :: ·)
def fall (s : List UInt8) : Option (List Fr) := fallN (s.length + 1) s
theorem fallN_eq : ∀ (k j : Nat) (s : List UInt8), s.length < k → s.length < j → fallN k s = fallN j s := by
  intro k
  induction k with
  | zero => intro j s h; omega
  | succ k ih =>
    intro j s h1 h2
    cases j with
    | zero => omega
    | succ j =>
      unfold fallN
      cases h : fread s with
      | none => rfl
      | some x =>
        have := fread_lt (f := x.1) (r := x.2) h
        simp only [Option.bind_some]
        rw [ih j x.2 (by omega) (by omega)]
theorem fall_none {s : List UInt8} (h : fread s = none) : fall s = none := by
  unfold fall fallN
  rw [h]; rfl
theorem fall_some {s r : List UInt8} {f : Fr} (h : fread s = some (f, r)) : fall s = if r = [] then some [f] else (fall r).map (f :: ·) := by
  have := fread_lt h
  unfold fall
  conv => lhs; unfold fallN
  rw [h]
  simp only [Option.bind_some]
  rw [fallN_eq s.length (r.length + 1) r (by omega) (by omega)]
theorem frd_e {s : List UInt8} : (frd s).2.2 = 0 → fread s = some ((frd s).1, (frd s).2.1) := by
  unfold frd
  split
  · intro h; cases h
  · cases h : fread s with
    | none => intro h; cases h
    | some x => intro _; rfl
theorem fread_nil : fread [] = none := by decide +kernel
theorem frd_ne {s : List UInt8} (h : (frd s).2.2 ≠ 0) : fread s = none := by
  unfold frd at h
  split at h
  · rename_i h0; rw [h0]; exact fread_nil
  · cases hf : fread s with
    | none => rfl
    | some x => rw [hf] at h; exact absurd rfl h

/-- a frame, with the slice that its list is -/
structure FV where
  f : Fr
  A : Option Addr
  c : Nat
def FV.cells (v : FV) : List Value := (fcs v.A v.f.list.length v.c v.f).toList
theorem FV.cells_len (v : FV) : v.cells.length = 8 := rfl
/-- a frame's list is one's own, and short -/
def FV.Good (v : FV) (w : World) (B : Nat) : Prop := ROwn w B v.A v.c v.f.list ∧ v.f.list.length ≤ 64
def FsOwn (w : World) (B : Nat) (A : Option Addr) (c : Nat) (l : List FV) : Prop := w.ownsRow B 26 8 (.slice A l.length c) l.length (l.flatMap FV.cells) ∧ ∀ v ∈ l, v.Good w B
theorem FsOwn.nil (w : World) (B : Nat) : FsOwn w B none 0 [] := ⟨World.ownsRow_nil _ _ _ _, by simp⟩
theorem FsOwn.new {w w' : World} {B : Nat} {A : Option Addr} {c : Nat} {l : List FV} (h : FsOwn w B A c l) (m : Mod [] w w') : FsOwn w' B A c l :=
  ⟨m.own h.1 (by simp), fun v hv => ⟨(h.2 v hv).1.mod m (by simp), (h.2 v hv).2⟩⟩
theorem frameInfo : (Tryd.prog.info? 26).map (fun i => (i.zero, i.size, i.bytes)) = some (some (.agg #[.int .u64 0, .int .u64 0, .int .u64 0, .int .u64 0, .bool false, .string ⟨#[]⟩, .string ⟨#[]⟩, .slice none 0 0]), 8, 96) := by kernel_rfl
/-- one frame more -/
theorem FsOwn.app {w : World} {B : Nat} {A : Option Addr} {c : Nat} {l : List FV} (h : FsOwn w B A c l) (hB : B ≤ w.heap.size) (hn : l.length ≤ 1000000) (v : FV) (hv : v.Good w B) (g : Nat) (hg : Blk w g 26 (fcs v.A v.f.list.length v.c v.f)) :
    ∃ A' c' w', (Builtin.append_ #[30, 30] 30 #[.slice A l.length c, .slice (some ⟨g, 0, none⟩) 1 1]).run Tryd.prog w = .ok (.slice A' (l.length + 1) c') w' ∧ FsOwn w' B A' c' (l ++ [v]) ∧
      Mod (Value.slice A l.length c).ownBlock.toList w w' := by
  obtain ⟨A', c', w', hrun, hown, hm, _⟩ := app_one (P := Tryd.prog) Tryd.underlying30 frameInfo rfl w 30 B _ l.length _ h.1 hB v.cells rfl (by
    intro u hu
    have hu2 : u = .int .u64 (v.f.kind : Nat) ∨ u = .int .u64 (v.f.a : Nat) ∨ u = .int .u64 (v.f.b : Nat) ∨ u = .int .u64 (v.f.c : Nat) ∨ u = .bool v.f.fin ∨ u = .string v.f.data ∨ u = .string v.f.more ∨ u = .slice v.A v.f.list.length v.c := by
      simpa [FV.cells, fcs] using hu
    rcases hu2 with rfl | rfl | rfl | rfl | rfl | rfl | rfl | rfl <;> rfl) (by omega) (by omega) g (fun j u hu => by
    rw [hg.cell j]
    simpa [FV.cells] using hu)
  refine ⟨A', c', w', hrun, ⟨?_, ?_⟩, hm⟩
  · have e : (l ++ [v]).length = l.length + 1 := by simp
    rw [e, List.flatMap_append]
    have e2 : [v].flatMap FV.cells = v.cells := by simp
    rw [e2]
    exact hown
  · have hfar : ∀ u : FV, u.Good w B → u.Good w' B := fun u hu => ⟨hu.1.mod hm (fun g' o' hA hmem => by
      have hk : (Value.slice A l.length c).ownBlock = some g' := by simpa using hmem
      rcases h.1.2 with ⟨h0, _⟩ | ⟨g2, cap, cur, hv2, _, hh, _⟩
      · rw [h0] at hk; simp [Value.ownBlock] at hk
      · rw [hv2] at hk
        have e : g2 = g' := by simpa [Value.ownBlock] using hk
        have hb : Blk w g2 26 cur := hh
        exact hu.1.ne hb (by decide) g' o' hA e.symm), hu.2⟩
    intro u hu
    rcases List.mem_append.1 hu with h1 | h1
    · exact hfar u (h.2 u h1)
    · simp at h1
      subst h1
      exact hfar _ hv
/-- what All tells -/
def AllPost (w : World) (s : List UInt8) (e : Ending) (w' : World) : Prop := Mod [] w w' ∧ match fall s with
  | none => e = .returned (.tuple #[.slice none 0 0, .int .i64 2])
  | some l => ∃ (vs : List FV) (A : Option Addr) (c : Nat), vs.map FV.f = l ∧ e = .returned (.tuple #[.slice A vs.length c, .int .i64 0]) ∧ FsOwn w' w.heap.size A c vs ∧ vs.length ≤ s.length
theorem AllPost.none_ {w w' : World} {s : List UInt8} {e : Ending} (m : Mod [] w w') (h : fall s = none) (he : e = .returned (.tuple #[.slice none 0 0, .int .i64 2])) : AllPost w s e w' := by
  refine ⟨m, ?_⟩
  rw [h]; exact he
theorem AllPost.some_ {w w' : World} {s : List UInt8} {e : Ending} {vs : List FV} {A : Option Addr} {c : Nat} (m : Mod [] w w') (h : fall s = some (vs.map FV.f)) (he : e = .returned (.tuple #[.slice A vs.length c, .int .i64 0])) (ho : FsOwn w' w.heap.size A c vs) (hl : vs.length ≤ s.length) : AllPost w s e w' := by
  refine ⟨m, ?_⟩
  rw [h]; exact ⟨vs, A, c, rfl, he, ho, hl⟩
end Go.Proofs.YtbjmcnmcodbkdaaDoor

/-
  frames: All.
-/
namespace Go.Proofs.YtbjmcnmcodbkdaaDoor
open Go.RowKit

def frs1 (first : Bool) (s : List UInt8) (vs : List FV) : Option (List Fr) := if first then fall s else if s = [] then some (vs.map FV.f) else (fall s).map (vs.map FV.f ++ ·)
def allM (sv fv : Value) : Nat := (match sv with | .string s => s.size | _ => 0) + (match fv with | .bool true => 1 | _ => 0)

set_option maxRecDepth 100000 in
set_option maxHeartbeats 8000000 in
theorem all_any (w : World) (x : ByteArray) (hx : x.size ≤ 1000000) :
    Calls Tryd.prog 12 #[.string x] w (AllPost w x.data.toList) := by
  have HX := hide (bytes_len x)
  go_enter Tryd.func12, Tryd.ntmps12
  go_wp2_with fail
  go_loopw [0, 4, 5] (fun sv lv fv wr => ∃ (s : ByteArray) (vs : List FV) (A : Option Addr) (c : Nat) (first : Bool), sv = .string s ∧ lv = .slice A vs.length c ∧ fv = .bool first ∧ Hid (FsOwn wr w.heap.size A c vs) ∧ Hid (fall x.data.toList = frs1 first s.data.toList vs) ∧ Hid (s.size + vs.length ≤ x.size) ∧ (first = true → vs = []) ∧ Hid (Mod [] w wr)) (fun sv _ fv _ => allM sv fv)
  case atStart => exact ⟨x, [], none, 0, true, rfl, rfl, rfl, hide (FsOwn.nil _ _), hide rfl, hide (by simp), fun _ => rfl, hide (Mod.refl _ _)⟩
  case round =>
    obtain ⟨s, vs, A, c, first, rfl, rfl, rfl, ho, hfa, hsz, hf1, hm⟩ := hrel
    have hes := empty_size s
    by_cases hend : first = false ∧ s.size = 0
    · obtain ⟨rfl, h0⟩ := hend
      rw [decide_eq_true h0] at hes
      have hs : s.data.toList = [] := List.eq_nil_of_length_eq_zero (by rw [bytes_len]; exact h0)
      have hE : fall x.data.toList = some (vs.map FV.f) := by rw [hfa.out, hs]; rfl
      have HE := hide hE
      clear hE hs hfa h0 hf1
      go_wp2_with fail
      go_ret2
      exact AllPost.some_ hm.out HE.out rfl ho.out (by have := hsz.out; have := HX.out; omega)
    · have HR := hide (read_any wr s (by have := hsz.out; omega))
      obtain ⟨g, r, er, hgr⟩ : ∃ g r er, frd s.data.toList = (g, r, er) := ⟨_, _, _, rfl⟩
      have hcond : first = true ∨ (first = false ∧ s.toList.isEmpty = false) := by
        cases first
        · right; rw [hes]; exact ⟨rfl, decide_eq_false (fun h => hend ⟨rfl, h⟩)⟩
        · left; rfl
      by_cases her : er = 0
      · have hfr : fread s.data.toList = some (g, r) := by
          have := frd_e (s := s.data.toList) (by rw [hgr]; exact her)
          rw [hgr] at this
          exact this
        have hlt := fread_lt hfr
        obtain ⟨S, hS⟩ : ∃ S : ByteArray, S = ⟨r.toArray⟩ := ⟨_, rfl⟩
        have hSr : S.data.toList = r := by rw [hS]
        have hst : str r = .string S := by rw [hS]; rfl
        have hSz : S.size < s.size := by rw [← bytes_len, ← bytes_len, hSr]; exact hlt
        have HSz := hide hSz
        have hnew : ∀ (A' : Option Addr) (c' : Nat), fall x.data.toList = frs1 false S.data.toList (vs ++ [⟨g, A', c'⟩]) := by
          intro A' c'
          rw [hfa.out]
          have h1 := fall_some hfr
          unfold frs1
          rw [hSr]
          cases first
          · simp only [Bool.false_eq_true, if_false]
            have hsn : s.data.toList ≠ [] := by
              intro h; rw [h] at hlt; simp at hlt
            rw [if_neg hsn, h1]
            by_cases hr : r = []
            · rw [if_pos hr, if_pos hr]; simp
            · rw [if_neg hr, if_neg hr]
              cases fall r <;> simp
          · rw [hf1 rfl]
            simp only [if_true, Bool.false_eq_true, if_false]
            rw [h1]
            by_cases hr : r = []
            · rw [if_pos hr, if_pos hr]; simp
            · rw [if_neg hr, if_neg hr]
              cases fall r <;> simp
        have HNew := hide hnew
        rw [hgr] at HR
        have HSt := hide hst
        have her2 := her
        clear hfa hgr hfr hlt hS hSr hSz hnew hend hf1 hes hst her
        have HEr := hide her2
        clear her2
        have FIN : ∀ e w2, RdPost wr (g, r, er) e w2 → ∃ A1 c1 A' c' w6, e = .returned (.tuple #[fval A1 g.list.length c1 g, .string S, .int .i64 0]) ∧
            (Builtin.append_ #[30, 30] 30 #[.slice A vs.length c, .slice (some ⟨w2.heap.size + 1, 0, none⟩) 1 1]).run Tryd.prog ((w2.alloc (.cells (fcs A1 g.list.length c1 g) 26)).alloc (.cells (fcs A1 g.list.length c1 g) 26)) = .ok (.slice A' (vs.length + 1) c') w6 ∧
            FsOwn w6 w.heap.size A' c' (vs ++ [⟨g, A1, c1⟩]) ∧ Mod [] w w6 := by
          rintro e w2 ⟨A1, c1, rfl, o1, l1, m1⟩
          simp only at o1 l1
          have hz := (hm.out.trans m1 (by simp))
          have h2 := (ho.out.new m1)
          have h3 := h2.new (((Mod.refl [] w2).alloc (.cells (fcs A1 g.list.length c1 g) 26)).alloc (.cells (fcs A1 g.list.length c1 g) 26))
          have hg : FV.Good ⟨g, A1, c1⟩ ((w2.alloc (.cells (fcs A1 g.list.length c1 g) 26)).alloc (.cells (fcs A1 g.list.length c1 g) 26)) w.heap.size :=
            ⟨(o1.base hm.out.size).mod (((Mod.refl [] w2).alloc (.cells (fcs A1 g.list.length c1 g) 26)).alloc (.cells (fcs A1 g.list.length c1 g) 26)) (by simp), l1⟩
          have hbk : Blk ((w2.alloc (.cells (fcs A1 g.list.length c1 g) 26)).alloc (.cells (fcs A1 g.list.length c1 g) 26)) (w2.heap.size + 1) 26 (fcs A1 g.list.length c1 g) := by
            have := Blk.new (w2.alloc (.cells (fcs A1 g.list.length c1 g) 26)) 26 (fcs A1 g.list.length c1 g)
            rw [World.size_alloc] at this
            exact this
          have hz2 := (hz.alloc (.cells (fcs A1 g.list.length c1 g) 26)).alloc (.cells (fcs A1 g.list.length c1 g) 26)
          obtain ⟨A', c', w6, hrun, hown, hm6⟩ := h3.app hz2.size (by have := hsz.out; omega) ⟨g, A1, c1⟩ hg _ hbk
          refine ⟨A1, c1, A', c', w6, ?_, hrun, hown, hz2.keep hm6 h3.1 (Nat.le_refl _)⟩
          rw [HSt.out, HEr.out]
        have HFin := hide FIN
        clear FIN ho hm HSt HEr
        rcases hcond with rfl | ⟨rfl, hcond⟩
        · go_wp2_with fail
          refine HR.out.mono ?_
          rintro e w2 hpo
          obtain ⟨A1, c1, A', c', w6, rfl, hrun, hown, hmm⟩ := HFin.out e w2 hpo
          have HRun := hide hrun
          have HOwn := hide hown
          have HMm := hide hmm
          clear hpo hrun hown hmm
          unfold fval fcs at *
          go_wp2_with (at_builtin; refine Lib.wpList_append_run _ rfl (.tmp 22) (.tmp 24) 30 30 rfl (.slice A vs.length c) (.slice (some ⟨w2.heap.size + 1, 0, none⟩) 1 1) rfl rfl _ w6 HRun.out ?_)
          go_roundw
          case rel => exact ⟨S, vs ++ [⟨g, A1, c1⟩], A', c', false, rfl, by simp, rfl, HOwn, hide (HNew.out A1 c1), hide (by have := hsz.out; have := HSz.out; simp; omega), (fun h => by cases h), HMm⟩
          case measure => have := HSz.out; simp [allM]; omega
        · go_wp2_with fail
          refine HR.out.mono ?_
          rintro e w2 hpo
          obtain ⟨A1, c1, A', c', w6, rfl, hrun, hown, hmm⟩ := HFin.out e w2 hpo
          have HRun := hide hrun
          have HOwn := hide hown
          have HMm := hide hmm
          clear hpo hrun hown hmm
          unfold fval fcs at *
          go_wp2_with (at_builtin; refine Lib.wpList_append_run _ rfl (.tmp 22) (.tmp 24) 30 30 rfl (.slice A vs.length c) (.slice (some ⟨w2.heap.size + 1, 0, none⟩) 1 1) rfl rfl _ w6 HRun.out ?_)
          go_roundw
          case rel => exact ⟨S, vs ++ [⟨g, A1, c1⟩], A', c', false, rfl, by simp, rfl, HOwn, hide (HNew.out A1 c1), hide (by have := hsz.out; have := HSz.out; simp; omega), (fun h => by cases h), HMm⟩
          case measure => have := HSz.out; simp [allM]; omega
      · have hfr : fread s.data.toList = none := frd_ne (by rw [hgr]; exact her)
        have hE : fall x.data.toList = none := by
          rw [hfa.out]
          unfold frs1
          cases first
          · have hsn : s.data.toList ≠ [] := fun h => hend ⟨rfl, by rw [← bytes_len, h]; rfl⟩
            simp only [Bool.false_eq_true, if_false]
            rw [if_neg hsn, fall_none hfr]; rfl
          · simp only [if_true]
            exact fall_none hfr
        have HE := hide hE
        have herb : (er != 0) = true := by simpa using her
        rw [hgr] at HR
        clear hfa hgr hfr hE hend hf1 hes her
        rcases hcond with rfl | ⟨rfl, hcond⟩
        all_goals
          go_wp2_with fail
          refine HR.out.mono ?_
          rintro e w2 ⟨A1, c1, rfl, o1, l1, m1⟩
          have HMm := hide ((hm.out.trans m1 (by simp)).alloc (.cells (fcs A1 g.list.length c1 g) 26))
          clear o1 l1 m1
          unfold fval fcs str at *
          go_wp2_with fail
          go_ret2
          exact AllPost.none_ HMm.out HE.out rfl
end Go.Proofs.YtbjmcnmcodbkdaaDoor
