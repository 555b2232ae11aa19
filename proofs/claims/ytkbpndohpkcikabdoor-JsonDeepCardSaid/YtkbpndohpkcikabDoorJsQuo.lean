/-
  json: a text written.
-/
import Derived.Test.YtkbpndohpkcikabDoorJsBw
import Derived.Test.YtkbpndohpkcikabDoorJsRd2
import Derived.Lib.ConvBytes
import Derived.WalkMore
import Derived.Deep.RegionHeldLaw
import Derived.Test.YtkbpndohpkcikabDoorBag
namespace Go.Proofs.YtkbpndohpkcikabDoor
open Go.RowKit Js
set_option linter.unusedVariables false
set_option linter.unusedSimpArgs false

theorem sgnF_some {x : Int} {v : Value} (h : sgnF x = some v) : ∃ b y : UInt8, x = (b.toNat : Int) ∧ v = .int .u8 (y.toNat : Int) ∧ sign y = some b := by
  unfold sgnF upd at h
  split at h
  · cases h; rename_i e; exact ⟨92, 92, e, rfl, by decide⟩
  split at h
  · cases h; rename_i e; exact ⟨34, 34, e, rfl, by decide⟩
  split at h
  · cases h; rename_i e; exact ⟨114, 13, e, rfl, by decide⟩
  split at h
  · cases h; rename_i e; exact ⟨102, 12, e, rfl, by decide⟩
  split at h
  · cases h; rename_i e; exact ⟨110, 10, e, rfl, by decide⟩
  split at h
  · cases h; rename_i e; exact ⟨116, 9, e, rfl, by decide⟩
  split at h
  · cases h; rename_i e; exact ⟨98, 8, e, rfl, by decide⟩
  · cases h
theorem sgnF_sign {c b : UInt8} (h : sign c = some b) : sgnF (b.toNat : Int) = some (.int .u8 (c.toNat : Int)) := by
  unfold sign at h
  repeat' split at h
  all_goals first
    | (cases h; subst c; rfl)
    | cases h
theorem esc_len (c : UInt8) : (esc c).length ≤ 6 := by
  unfold esc
  cases sign c with
  | some b => simp
  | none => by_cases h : c < 32 ∨ 126 < c <;> simp [h]
theorem escs_len : ∀ l : List UInt8, (l.flatMap esc).length ≤ 6 * l.length
  | [] => by simp
  | c :: l => by
    have := escs_len l
    have := esc_len c
    rw [List.flatMap_cons, List.length_append, List.length_cons]
    omega
theorem take_esc {D : List UInt8} {i : Nat} {c : UInt8} (h : D[i]? = some c) : (D.take (i + 1)).flatMap esc = (D.take i).flatMap esc ++ esc c := by
  rw [List.take_add_one, h, List.flatMap_append]
  simp

theorem bwbyte_lit (w : World) (B b : Nat) (fp : Option Nat) (l : List UInt8) (c : UInt8) (x : Int) (hx : x = (c.toNat : Int)) (h : BW w B b fp l) (hl : l.length + 1 ≤ 140737488355328) (hB : B ≤ w.heap.size) :
    Calls Tryd.prog 26 #[.pointer (some ⟨b, 0, none⟩), .int .u8 x] w fun e w' => e = .returned .nilIface ∧ ∃ fp', BW w' B b fp' (l ++ [c]) ∧ (fp' = fp ∨ ∃ k, fp' = some k ∧ w.heap.size ≤ k) ∧ Mod (b :: fp.toList) w w' := by
  subst hx
  exact bwbyte_any w B b fp l c h hl hB
/-- a text under way -/
structure QS (w wr : World) (b g : Nat) (D : List UInt8) (fp : Option Nat) (l : List UInt8) : Prop where
  mod : Mod [] w wr
  bw : BW wr w.heap.size b fp l
  row : ∀ j (h : j < D.length), wr.cell? ⟨g, j, none⟩ = some (.int .u8 (D[j].toNat : Int))
  lt : g < wr.heap.size
  bg : b ≠ g
  fg : fp ≠ some g
theorem QS.new {w wr wr' : World} {b g : Nat} {D l : List UInt8} {fp : Option Nat} (h : QS w wr b g D fp l) (m : Mod [] wr wr') : QS w wr' b g D fp l :=
  ⟨h.mod.trans m (by simp), h.bw.mod m (by simp) (by simp), fun j hj => (m.cell (p := ⟨g, j, none⟩) h.lt (by simp)).trans (h.row j hj), Nat.lt_of_lt_of_le h.lt m.size, h.bg, h.fg⟩
theorem QS.at_ {w wr wr' : World} {b g r : Nat} {D l : List UInt8} {fp : Option Nat} (h : QS w wr b g D fp l) (m : Mod [r] wr wr') (hr : b < r ∧ g < r ∧ (∀ k, fp = some k → k < r) ∧ w.heap.size ≤ r) : QS w wr' b g D fp l :=
  ⟨h.mod.trans m (fun x hx => by simp at hx; subst hx; exact .inr hr.2.2.2), h.bw.mod m (by simp; omega) (fun k hk => by have := hr.2.2.1 k hk; simp; omega), fun j hj => (m.cell (p := ⟨g, j, none⟩) h.lt (by simp; omega)).trans (h.row j hj), Nat.lt_of_lt_of_le h.lt m.size, h.bg, h.fg⟩
theorem QS.far {w wr : World} {b g : Nat} {D l : List UInt8} {fp : Option Nat} (h : QS w wr b g D fp l) : b < wr.heap.size ∧ g < wr.heap.size ∧ (∀ k, fp = some k → k < wr.heap.size) ∧ w.heap.size ≤ wr.heap.size :=
  ⟨h.bw.lt, h.lt, fun k hk => (h.bw.fp_lt k hk).2, h.mod.size⟩
theorem QS.wrote {w wr wr' : World} {b g : Nat} {D l l' : List UInt8} {fp fp' : Option Nat} (h : QS w wr b g D fp l) (hb : BW wr' w.heap.size b fp' l') (hf : fp' = fp ∨ ∃ k, fp' = some k ∧ wr.heap.size ≤ k) (m : Mod (b :: fp.toList) wr wr') : QS w wr' b g D fp' l' := by
  have hmem : ∀ x, x ∈ b :: fp.toList → w.heap.size ≤ x ∧ x ≠ g := fun x hx => by
    rcases List.mem_cons.1 hx with rfl | hx
    · exact ⟨h.bw.base, h.bg⟩
    · rw [Option.mem_toList] at hx
      exact ⟨(h.bw.fp_lt x hx).1, fun e => h.fg (by rw [← e]; exact hx)⟩
  refine ⟨h.mod.trans m (fun x hx => .inr (hmem x hx).1), hb, fun j hj => (m.cell (p := ⟨g, j, none⟩) h.lt (fun hx => (hmem _ hx).2 rfl)).trans (h.row j hj), Nat.lt_of_lt_of_le h.lt m.size, h.bg, ?_⟩
  rcases hf with rfl | ⟨k, rfl, hk⟩
  · exact h.fg
  · intro e
    cases e
    have := h.lt
    omega
theorem hexKey : ∀ k : Fin 16, ((⟨#[48, 49, 50, 51, 52, 53, 54, 55, 56, 57, 97, 98, 99, 100, 101, 102]⟩ : ByteArray)[k.val]'(by have := k.isLt; exact this)) = hexd k.val := by decide
theorem hexAt (x : Int) (k : Nat) (hx : x = k) (hk : k < 16) (h : x.toNat < (⟨#[48, 49, 50, 51, 52, 53, 54, 55, 56, 57, 97, 98, 99, 100, 101, 102]⟩ : ByteArray).size) : (⟨#[48, 49, 50, 51, 52, 53, 54, 55, 56, 57, 97, 98, 99, 100, 101, 102]⟩ : ByteArray)[x.toNat] = hexd k := by
  subst hx
  simp only [Int.toNat_natCast]
  exact hexKey ⟨k, hk⟩
theorem bits15K : ∀ k : Fin 256, bits .and .u8 (k.val : Int) 15 = ((k.val % 16 : Nat) : Int) := by decide +kernel
theorem bits15 (c : UInt8) : bits .and .u8 (c.toNat : Int) 15 = ((c.toNat % 16 : Nat) : Int) := bits15K ⟨c.toNat, c.toNat_lt⟩
theorem conv2 (W : World) (g : Nat) (a b : UInt8) (h0 : W.cell? ⟨g, 0, none⟩ = some (.int .u8 (a.toNat : Int))) (h1 : W.cell? ⟨g, 1, none⟩ = some (.int .u8 (b.toNat : Int))) :
    (convert 39 9 (.slice (some ⟨g, 0, none⟩) 2 2)).run Tryd.prog W = .ok (.string ⟨#[a, b]⟩) W :=
  run_convert_bytes_back (P := Tryd.prog) W 39 9 5 ⟨g, 0, none⟩ 2 [a, b] Tryd.underlying39 Tryd.underlying5 Tryd.underlying9 (fun j hj => by
    match j, hj with
    | 0, _ => simpa [Addr.add] using h0
    | 1, _ => simpa [Addr.add] using h1)
theorem ba_app (a b : Array UInt8) : ((⟨a⟩ : ByteArray) ++ ⟨b⟩) = ⟨a ++ b⟩ := by
  apply ByteArray.ext
  simp
theorem quoW {w wr : World} {b g i : Nat} {D : List UInt8} {fp : Option Nat} {bs : Array UInt8} (h : QS w wr b g D fp (34 :: (D.take i).flatMap esc)) (hn : (D.take (i + 1)).flatMap esc = (D.take i).flatMap esc ++ bs.toList) (hl : (34 :: (D.take i).flatMap esc).length + bs.size ≤ 140737488355328) :
    Calls Tryd.prog 23 #[.pointer (some ⟨b, 0, none⟩), .string ⟨bs⟩] wr fun e w' => ∃ fp' v, e = .returned v ∧ QS w w' b g D fp' (34 :: (D.take (i + 1)).flatMap esc) := by
  refine (bwstring_any _ w.heap.size b fp _ ⟨bs⟩ h.bw hl h.mod.size).mono ?_
  rintro e w8 ⟨rfl, fp', hb8, hf8, m8⟩
  refine ⟨fp', _, rfl, h.wrote (by rw [hn]; exact hb8) hf8 m8⟩
theorem quoB {w wr : World} {b g i : Nat} {D : List UInt8} {fp : Option Nat} {c : UInt8} (h : QS w wr b g D fp (34 :: (D.take i).flatMap esc)) (hn : (D.take (i + 1)).flatMap esc = (D.take i).flatMap esc ++ [c]) (hl : (34 :: (D.take i).flatMap esc).length + 1 ≤ 140737488355328) :
    Calls Tryd.prog 26 #[.pointer (some ⟨b, 0, none⟩), .int .u8 (c.toNat : Int)] wr fun e w' => ∃ fp' v, e = .returned v ∧ QS w w' b g D fp' (34 :: (D.take (i + 1)).flatMap esc) := by
  refine (bwbyte_any _ w.heap.size b fp _ c h.bw hl h.mod.size).mono ?_
  rintro e w8 ⟨rfl, fp', hb8, hf8, m8⟩
  refine ⟨fp', _, rfl, h.wrote (by rw [hn]; exact hb8) hf8 m8⟩
set_option maxRecDepth 100000 in
set_option maxHeartbeats 8000000 in
theorem quoted_any (w : World) (s : ByteArray) (hs : s.size ≤ 1099511627776) :
    Calls Tryd.prog 25 #[.string s] w fun e w' => e = .returned (str (quo s.data.toList)) ∧ Mod [] w w' := by
  obtain ⟨D, hD⟩ : ∃ D, s.data.toList = D := ⟨_, rfl⟩
  have hDl : D.length = s.size := by rw [← hD]; exact Array.length_toList
  rw [hD]
  have HDl := hide hDl
  have HB0 := hide (BW.new w w.heap.size (Nat.le_refl _))
  have HM0 := hide ((Mod.refl [] w).alloc (.cells #[.pointer none, .slice none 0 0] 41))
  have HCv := hide (fun W => Lib.run_convert_string_bytes (P := Tryd.prog) W 9 39 5 s Tryd.underlying9 Tryd.underlying39 Tryd.underlying5)
  have HBy := hide (fun (W : World) (j : Nat) (h : j < D.length) => show (Lib.bytesWorld W 5 s).cell? ⟨W.heap.size, j, none⟩ = some (.int .u8 (D[j].toNat : Int)) by
    rw [Lib.bytesWorld_cell W _ _ _ (by omega)]
    simp [hD, h])
  have HMb := hide (fun (W : World) => show Mod [] W (Lib.bytesWorld W 5 s) from ⟨rfl, rfl, rfl, by rw [Lib.bytesWorld_size]; omega, fun j hj _ => Lib.bytesWorld_at_old W _ _ j hj⟩)
  have HSb := hide (fun (W : World) => Lib.bytesWorld_size W 5 s)
  obtain ⟨n, hn⟩ : ∃ n, s.size = n := ⟨_, rfl⟩
  rw [hn] at hs HDl HCv
  clear hD hDl hn
  go_enter Tryd.func25, Tryd.ntmps25
  go_wp2_with fail
  go_step3
  go_wp2_with fail
  refine (bwbyte_lit _ w.heap.size w.heap.size none [] 34 34 rfl HB0.out (by simp) (by simp)).mono ?_
  rintro e w1 ⟨rfl, fp, hb1, hf1, m1⟩
  have m01 := HM0.out.trans m1 (fun x hx => by simp at hx; subst hx; exact .inr (Nat.le_refl _))
  have hcv := HCv.out w1
  obtain ⟨w2, hw2⟩ : ∃ w2, Lib.bytesWorld w1 5 s = w2 := ⟨_, rfl⟩
  obtain ⟨cap, hcap⟩ : ∃ cap, grownCap w1 n 0 5 = cap := ⟨_, rfl⟩
  have hrow := HBy.out w1
  have hmb := HMb.out w1
  have hsb := HSb.out w1
  rw [hw2] at hcv hrow hmb hsb
  have HQ : Hid (QS w w2 w.heap.size w1.heap.size D fp [34]) := hide ⟨m01.trans hmb (by simp), hb1.mod hmb (by simp) (by simp), hrow, by rw [hsb]; omega, by have := hb1.lt; omega, fun e => by have := (hb1.fp_lt _ e).2; omega⟩
  obtain ⟨g, hg⟩ : ∃ g, w1.heap.size = g := ⟨_, rfl⟩
  rw [hg] at hcv HQ
  clear hb1 hf1 m1 m01 hrow hmb hsb HCv HBy HMb HSb HB0 HM0 hw2 hg
  go_wp2_with fail
  go_step3
  go_wp2_with fail
  have HQ0 := HQ
  clear hcv HQ
  go_loopw [12] (fun iv wr => ∃ (i : Nat) (fp : Option Nat), i ≤ n ∧ iv = .int .i64 (i : Int) ∧ Hid (QS w wr w.heap.size g D fp (34 :: (D.take i).flatMap esc))) (fun iv _ => n - (intOf iv).toNat)
  case atStart => exact ⟨0, fp, by omega, rfl, HQ0⟩
  case round =>
    clear HQ0
    obtain ⟨i, fp, hi, rfl, HQ⟩ := hrel
    by_cases h2 : i < n
    · have hiD : i < D.length := by rw [HDl.out]; exact h2
      obtain ⟨c, hc⟩ : ∃ c, D[i] = c := ⟨_, rfl⟩
      have hc? : D[i]? = some c := by rw [List.getElem?_eq_getElem hiD, hc]
      have hcell : wr.cell? ⟨g, i, none⟩ = some (.int .u8 (c.toNat : Int)) := by rw [← hc]; exact HQ.out.row i hiD
      have HT := hide (take_esc hc?)
      have HLen : Hid ((34 :: (D.take i).flatMap esc).length + 6 ≤ 140737488355328) := hide (by
        have := escs_len (D.take i)
        have h3 : (D.take i).length ≤ i := by rw [List.length_take]; omega
        simp only [List.length_cons]
        omega)
      have hii : (i : Int) < n := by omega
      have a1 : IntKind.i64.wrap ((i : Int) + 1) = (i : Int) + 1 := IntWalk.i64_in _ (by omega)
      clear hc hc? hiD
      go_wp2_with fail
      refine (signs_any wr).mono ?_
      rintro e w4 ⟨gm, rfl, hgm, hmap, m4⟩
      have HQ4 := hide (HQ.out.new m4)
      obtain ⟨w5, cnt, hrun, hit, m5, hsz⟩ := hmap.range (P := Tryd.prog) (T := 68) Tryd.underlying68
      have HFar := hide HQ4.out.far
      have HQ5 := hide (HQ4.out.new m5)
      have hml := hmap.lt
      obtain ⟨r, hr⟩ : ∃ r, w4.heap.size = r := ⟨_, rfl⟩
      rw [hr] at hrun hit hsz HFar hml
      clear hr m4 m5 hmap HQ HQ4
      go_wp2_with fail
      go_loopw [] (fun wq => ∃ (left : Int → Bool) (cnt : Nat), IIter wq gm r .u8 sgnF left cnt ∧ Hid (∀ x, left x = false → sgnF x ≠ some (.int .u8 (c.toNat : Int))) ∧ Hid (QS w wq w.heap.size g D fp (34 :: (D.take i).flatMap esc)))
        (fun wq => wq.rangeLeft gm r)
      case atStart => exact ⟨_, _, hit, hide (fun x hx h => by rw [h] at hx; cases hx), HQ5⟩
      case round =>
        clear hit HQ5 hrun hsz
        obtain ⟨left, cnt, hit, HL, HQ⟩ := hrel
        have Hle := hide hit.left_eq
        rcases hit.next (P := Tryd.prog) 0 with ⟨hz, hl0, hnx⟩ | ⟨x, v, w6, cnt2, hlx, hfx, hnx, hit6, hlt, hm6, hs6, hen⟩
        · have hsg : sign c = none := by
            cases hs : sign c with
            | none => rfl
            | some b => exact absurd (sgnF_sign hs) (HL.out _ (hl0 _))
          have HSg := hide hsg
          clear hz hl0 hit HL Hle hsg
          have hc256 := c.toNat_lt
          by_cases hbad : c.toNat < 32 ∨ 126 < c.toNat
          · have HE : Hid (esc c = [92, 117, 48, 48, hexd (c.toNat / 16), hexd (c.toNat % 16)]) := hide (by
              unfold esc
              rw [HSg.out]
              rw [if_pos (by rcases hbad with h | h; exact .inl h; exact .inr h)])
            by_cases hlo : c.toNat < 32
            · have hlo2 : (c.toNat : Int) < 32 := by omega
              clear hbad
              go_wp2_with fail
              refine wp_region_held_drew (S := fun _ => True) (by kernel_rfl) trivial (fun _ => ?_)
              refine take_dst (i := 0) (v := ?_) 37 rfl rfl (by kernel_rfl) (by kernel_rfl) (by kernel_rfl) (fun _ _ _ h => h) (Or.inl ⟨by rfl, ?_⟩) trivial ?_
              rotate_left
              · intro wq hSw
                go_simp
                first | done | (with_reducible rfl)
              simp only [Act.put, List.setIfInBounds_toArray, List.set_cons_zero, List.set_cons_succ]
              refine take_dst (i := 1) (v := ?_) 38 rfl rfl (by kernel_rfl) (by kernel_rfl) (by kernel_rfl) (fun _ _ _ h => h) (Or.inl ⟨by rfl, ?_⟩) trivial ?_
              rotate_left
              · intro wq hSw
                go_simp
                first | done | (with_reducible rfl)
              simp only [Act.put, List.setIfInBounds_toArray, List.set_cons_zero, List.set_cons_succ]
              refine take_dst (i := 2) (v := .int .u8 ((hexd (c.toNat / 16)).toNat : Int)) 39 rfl rfl (by kernel_rfl) (by kernel_rfl) (by kernel_rfl) (fun _ _ _ h => h) (Or.inl ⟨by rfl, ?_⟩) trivial ?_
              · intro wq hSw
                go_simp
                rw [dif_pos ⟨by omega, by omega⟩, hexAt _ (c.toNat / 16) (by omega) (by omega)]
                rfl
              simp only [Act.put, List.setIfInBounds_toArray, List.set_cons_zero, List.set_cons_succ]
              refine take_dst (i := 3) (v := ?_) 40 rfl rfl (by kernel_rfl) (by kernel_rfl) (by kernel_rfl) (fun _ _ _ h => h) (Or.inl ⟨by rfl, ?_⟩) trivial ?_
              rotate_left
              · intro wq hSw
                go_simp
                first | done | (with_reducible rfl)
              simp only [Act.put, List.setIfInBounds_toArray, List.set_cons_zero, List.set_cons_succ]
              refine take_dst (i := 4) (v := ?_) 41 rfl rfl (by kernel_rfl) (by kernel_rfl) (by kernel_rfl) (fun _ _ _ h => h) (Or.inl ⟨by rfl, ?_⟩) trivial ?_
              rotate_left
              · intro wq hSw
                go_simp
                first | done | (with_reducible rfl)
              simp only [Act.put, List.setIfInBounds_toArray, List.set_cons_zero, List.set_cons_succ]
              refine take_dst (i := 5) (v := .int .u8 ((hexd (c.toNat % 16)).toNat : Int)) 42 rfl rfl (by kernel_rfl) (by kernel_rfl) (by kernel_rfl) (fun _ _ _ h => h) (Or.inl ⟨by rfl, ?_⟩) trivial ?_
              · intro wq hSw
                go_simp
                rw [bits15, dif_pos ⟨by omega, by omega⟩, hexAt _ (c.toNat % 16) (by omega) (by omega)]
                rfl
              simp only [Act.put, List.setIfInBounds_toArray, List.set_cons_zero, List.set_cons_succ]
              refine wpAnyH_ready (rs := [6]) (by kernel_rfl) (by simp) ?_
              refine AllReadyH.cons rfl (fun K hK => ?_) AllReadyH.nil
              go_simp
              refine hK.out _ _ trivial (fun _ => ?_)
              clear hK K
              try simp only [Act.put, List.setIfInBounds_toArray, List.set_cons_zero, List.set_cons_succ]
              refine wpAnyH_ready (rs := [7]) (by kernel_rfl) (by simp) ?_
              refine AllReadyH.cons rfl (fun K hK => ?_) AllReadyH.nil
              go_simp
              rw [conv2 _ _ (hexd (c.toNat / 16)) (hexd (c.toNat % 16)) (by go_simp) (by go_simp)]
              go_simp
              refine hK.out _ _ trivial (fun _ => ?_)
              clear hK K
              try simp only [Act.put, List.setIfInBounds_toArray, List.set_cons_zero, List.set_cons_succ]
              refine wpAnyH_ready (rs := [8]) (by kernel_rfl) (by simp) ?_
              refine AllReadyH.cons rfl (fun K hK => ?_) AllReadyH.nil
              go_simp
              rw [ba_app]
              refine hK.out _ _ trivial (fun _ => ?_)
              clear hK K
              try simp only [Act.put, List.setIfInBounds_toArray, List.set_cons_zero, List.set_cons_succ]
              refine wpAnyH_ready (rs := [9]) (by kernel_rfl) (by simp) ?_
              refine AllReadyH.cons rfl (fun K hK => ?_) AllReadyH.nil
              go_simp
              have HC := hide (quoW (HQ.out.new (((Mod.refl [] wr).alloc (.cells #[.int .u8 ((hexd (c.toNat / 16)).toNat : Int), .int .u8 ((hexd (c.toNat % 16)).toNat : Int)] 5)).drew)) (bs := #[92, 117, 48, 48] ++ #[hexd (c.toNat / 16), hexd (c.toNat % 16)]) (HT.out.trans (by rw [HE.out]; rfl)) (by have := HLen.out; show _ + 6 ≤ _; omega))
              refine HC.out.mono ?_
              rintro e w8 ⟨fp', v8, rfl, hq8⟩
              have HQ8 := hide hq8
              clear hq8
              refine hK.out _ _ trivial (fun _ => ?_)
              clear hK K
              try simp only [Act.put, List.setIfInBounds_toArray, List.set_cons_zero, List.set_cons_succ]
              refine wpAnyH_done (by kernel_rfl) ?_ _
              go_wp2_with fail
              go_roundw
              case rel => exact ⟨i + 1, fp', by omega, by go_num, HQ8⟩
              case measure => simp [intOf]; omega
            · have hlo2 : decide ((c.toNat : Int) < 32) = false := decide_eq_false (by omega)
              have hhi2 : (126 : Int) < (c.toNat : Int) := by omega
              clear hbad hlo
              go_wp2_with fail
              refine wp_region_held_drew (S := fun _ => True) (by kernel_rfl) trivial (fun _ => ?_)
              refine take_dst (i := 0) (v := ?_) 37 rfl rfl (by kernel_rfl) (by kernel_rfl) (by kernel_rfl) (fun _ _ _ h => h) (Or.inl ⟨by rfl, ?_⟩) trivial ?_
              rotate_left
              · intro wq hSw
                go_simp
                first | done | (with_reducible rfl)
              simp only [Act.put, List.setIfInBounds_toArray, List.set_cons_zero, List.set_cons_succ]
              refine take_dst (i := 1) (v := ?_) 38 rfl rfl (by kernel_rfl) (by kernel_rfl) (by kernel_rfl) (fun _ _ _ h => h) (Or.inl ⟨by rfl, ?_⟩) trivial ?_
              rotate_left
              · intro wq hSw
                go_simp
                first | done | (with_reducible rfl)
              simp only [Act.put, List.setIfInBounds_toArray, List.set_cons_zero, List.set_cons_succ]
              refine take_dst (i := 2) (v := .int .u8 ((hexd (c.toNat / 16)).toNat : Int)) 39 rfl rfl (by kernel_rfl) (by kernel_rfl) (by kernel_rfl) (fun _ _ _ h => h) (Or.inl ⟨by rfl, ?_⟩) trivial ?_
              · intro wq hSw
                go_simp
                rw [dif_pos ⟨by omega, by omega⟩, hexAt _ (c.toNat / 16) (by omega) (by omega)]
                rfl
              simp only [Act.put, List.setIfInBounds_toArray, List.set_cons_zero, List.set_cons_succ]
              refine take_dst (i := 3) (v := ?_) 40 rfl rfl (by kernel_rfl) (by kernel_rfl) (by kernel_rfl) (fun _ _ _ h => h) (Or.inl ⟨by rfl, ?_⟩) trivial ?_
              rotate_left
              · intro wq hSw
                go_simp
                first | done | (with_reducible rfl)
              simp only [Act.put, List.setIfInBounds_toArray, List.set_cons_zero, List.set_cons_succ]
              refine take_dst (i := 4) (v := ?_) 41 rfl rfl (by kernel_rfl) (by kernel_rfl) (by kernel_rfl) (fun _ _ _ h => h) (Or.inl ⟨by rfl, ?_⟩) trivial ?_
              rotate_left
              · intro wq hSw
                go_simp
                first | done | (with_reducible rfl)
              simp only [Act.put, List.setIfInBounds_toArray, List.set_cons_zero, List.set_cons_succ]
              refine take_dst (i := 5) (v := .int .u8 ((hexd (c.toNat % 16)).toNat : Int)) 42 rfl rfl (by kernel_rfl) (by kernel_rfl) (by kernel_rfl) (fun _ _ _ h => h) (Or.inl ⟨by rfl, ?_⟩) trivial ?_
              · intro wq hSw
                go_simp
                rw [bits15, dif_pos ⟨by omega, by omega⟩, hexAt _ (c.toNat % 16) (by omega) (by omega)]
                rfl
              simp only [Act.put, List.setIfInBounds_toArray, List.set_cons_zero, List.set_cons_succ]
              refine wpAnyH_ready (rs := [6]) (by kernel_rfl) (by simp) ?_
              refine AllReadyH.cons rfl (fun K hK => ?_) AllReadyH.nil
              go_simp
              refine hK.out _ _ trivial (fun _ => ?_)
              clear hK K
              try simp only [Act.put, List.setIfInBounds_toArray, List.set_cons_zero, List.set_cons_succ]
              refine wpAnyH_ready (rs := [7]) (by kernel_rfl) (by simp) ?_
              refine AllReadyH.cons rfl (fun K hK => ?_) AllReadyH.nil
              go_simp
              rw [conv2 _ _ (hexd (c.toNat / 16)) (hexd (c.toNat % 16)) (by go_simp) (by go_simp)]
              go_simp
              refine hK.out _ _ trivial (fun _ => ?_)
              clear hK K
              try simp only [Act.put, List.setIfInBounds_toArray, List.set_cons_zero, List.set_cons_succ]
              refine wpAnyH_ready (rs := [8]) (by kernel_rfl) (by simp) ?_
              refine AllReadyH.cons rfl (fun K hK => ?_) AllReadyH.nil
              go_simp
              rw [ba_app]
              refine hK.out _ _ trivial (fun _ => ?_)
              clear hK K
              try simp only [Act.put, List.setIfInBounds_toArray, List.set_cons_zero, List.set_cons_succ]
              refine wpAnyH_ready (rs := [9]) (by kernel_rfl) (by simp) ?_
              refine AllReadyH.cons rfl (fun K hK => ?_) AllReadyH.nil
              go_simp
              have HC := hide (quoW (HQ.out.new (((Mod.refl [] wr).alloc (.cells #[.int .u8 ((hexd (c.toNat / 16)).toNat : Int), .int .u8 ((hexd (c.toNat % 16)).toNat : Int)] 5)).drew)) (bs := #[92, 117, 48, 48] ++ #[hexd (c.toNat / 16), hexd (c.toNat % 16)]) (HT.out.trans (by rw [HE.out]; rfl)) (by have := HLen.out; show _ + 6 ≤ _; omega))
              refine HC.out.mono ?_
              rintro e w8 ⟨fp', v8, rfl, hq8⟩
              have HQ8 := hide hq8
              clear hq8
              refine hK.out _ _ trivial (fun _ => ?_)
              clear hK K
              try simp only [Act.put, List.setIfInBounds_toArray, List.set_cons_zero, List.set_cons_succ]
              refine wpAnyH_done (by kernel_rfl) ?_ _
              go_wp2_with fail
              go_roundw
              case rel => exact ⟨i + 1, fp', by omega, by go_num, HQ8⟩
              case measure => simp [intOf]; omega
          · have HE : Hid (esc c = [c]) := hide (by
              unfold esc
              rw [HSg.out]
              rw [if_neg (by rintro (h | h); exact hbad (.inl h); exact hbad (.inr h))])
            have hlo2 : decide ((c.toNat : Int) < 32) = false := decide_eq_false (by omega)
            have hhi2 : decide ((126 : Int) < (c.toNat : Int)) = false := decide_eq_false (by omega)
            clear hbad
            go_wp2_with fail
            have HC := hide (quoB HQ.out (c := c) (HT.out.trans (by rw [HE.out])) (by have := HLen.out; show _ + 1 ≤ _; omega))
            refine HC.out.mono ?_
            rintro e w8 ⟨fp', v8, rfl, hq8⟩
            have HQ8 := hide hq8
            clear hq8
            go_wp2_with fail
            go_roundw
            case rel => exact ⟨i + 1, fp', by omega, by go_num, HQ8⟩
            case measure => simp [intOf]; omega
        · obtain ⟨b, y, rfl, rfl, hsb⟩ := sgnF_some hfx
          have HQ6 := hide (HQ.out.at_ hm6 HFar.out)
          by_cases hcy : c = y
          · subst hcy
            have g1 : ((c.toNat : Int) == (c.toNat : Int)) = true := by simp
            have HE : Hid (esc c = [92, b]) := hide (by unfold esc; rw [hsb])
            have hcv : (convert 39 9 (.slice (some ⟨w6.heap.size, 0, none⟩) 1 1)).run Tryd.prog (w6.alloc (.cells #[.int .u8 (b.toNat : Int)] 5)) = .ok (.string ⟨#[b]⟩) (w6.alloc (.cells #[.int .u8 (b.toNat : Int)] 5)) :=
              run_convert_bytes_back (P := Tryd.prog) _ 39 9 5 ⟨w6.heap.size, 0, none⟩ 1 [b] Tryd.underlying39 Tryd.underlying5 Tryd.underlying9 (fun j hj => by
                have : j = 0 := by simpa using hj
                subst this
                simp [Addr.add])
            have HQ7 := hide (HQ6.out.new ((Mod.refl [] w6).alloc (.cells #[.int .u8 (b.toNat : Int)] 5)))
            clear hsb hfx hlx hit hit6 HL Hle hm6 hs6 hlt HQ HQ6
            go_wp2_with fail
            have HC := hide (quoW HQ7.out (bs := #[92, b]) (HT.out.trans (by rw [HE.out])) (by have := HLen.out; show _ + 2 ≤ _; omega))
            rw [ba_app]
            refine HC.out.mono ?_
            rintro e w8 ⟨fp', v8, rfl, hq8⟩
            have HQ8 := hide hq8
            clear hq8
            go_wp2_with fail
            go_roundw
            case rel => exact ⟨i + 1, fp', by omega, by go_num, HQ8⟩
            case measure => simp [intOf]; omega
          · have g1 : ((c.toNat : Int) == (y.toNat : Int)) = false := by
              rw [beq_eq_false_iff_ne]
              intro e
              exact hcy (UInt8.toNat_inj.1 (by omega))
            have HL6 : Hid (∀ x, (left x && !(x == (b.toNat : Int))) = false → sgnF x ≠ some (.int .u8 (c.toNat : Int))) := hide (fun x hx => by
              by_cases e : x = (b.toNat : Int)
              · subst e
                rw [hfx]
                intro e
                injection e with e
                injection e with e1 e2
                exact hcy (UInt8.toNat_inj.1 (by omega))
              · exact HL.out x (by simpa [e] using hx))
            have HIt6 := hide hit6
            clear hsb hfx hlx hit HL hm6 hs6 HQ hcy hit6
            go_wp2_with fail
            go_roundw
            case rel => exact ⟨_, cnt2, HIt6.out, HL6, HQ6⟩
            case measure => rw [HIt6.out.left_eq, Hle.out]; exact hlt
    · have hin : i = n := by omega
      subst hin
      have hQ := HQ.out
      rw [List.take_of_length_le (by rw [HDl.out]; exact Nat.le_refl _)] at hQ
      have HLen : Hid ((34 :: D.flatMap esc).length + 1 ≤ 140737488355328) := hide (by
        have := escs_len D
        rw [HDl.out] at this
        simp only [List.length_cons]
        omega)
      have HC := hide (bwbyte_lit _ w.heap.size w.heap.size fp _ 34 34 rfl hQ.bw HLen.out hQ.mod.size)
      have HQ2 := hide hQ
      clear hQ HQ
      go_wp2_with fail
      refine HC.out.mono ?_
      rintro e w3 ⟨rfl, fp3, hb3, hf3, m3⟩
      have HM3 := hide (HQ2.out.wrote hb3 hf3 m3).mod
      have HC3 := hide (bstring_any w3 w.heap.size w.heap.size _ hb3.bld HM3.out.size)
      clear hb3 hf3 m3
      go_wp2_with fail
      refine HC3.out.mono ?_
      rintro e w4 ⟨rfl, h4⟩
      have HM4 := hide (h4.mod HM3.out (Nat.le_refl _))
      clear h4
      go_wp2_with fail
      rw [Exit.noGoto_ret]
      go_ret
      exact ⟨rfl, HM4.out⟩
end Go.Proofs.YtkbpndohpkcikabDoor
