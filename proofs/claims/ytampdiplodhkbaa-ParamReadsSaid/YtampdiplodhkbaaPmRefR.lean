/-
  parameters: the document's Read.
-/
import Derived.Test.YtampdiplodhkbaaPmRefI
import Derived.Deep.CutBlock
import Derived.Deep.DeepCutAuto
namespace Go.Proofs.Ytampdiplodhkbaa
open Go.RowKit

def RReadPost (w : World) (o : Option PP) (e : Ending) (w' : World) : Prop := Mod [] w w' ∧ match o with
  | none => e = .returned (.tuple #[.agg #[.slice none 0 0, .bool false, .string ⟨#[]⟩], .int .i64 2])
  | some p => ∃ g, e = .returned (.tuple #[rval g p, .int .i64 0]) ∧ Blk w' g 23 (rcells p)
theorem RReadPost.none_ {w w' : World} {s : Option PP} {e : Ending} (h : s = none) (hm : Mod [] w w') (he : e = .returned (.tuple #[.agg #[.slice none 0 0, .bool false, .string ⟨#[]⟩], .int .i64 2])) : RReadPost w s e w' := by
  subst h; exact ⟨hm, he⟩
theorem RReadPost.some_ {w w' : World} {s : Option PP} {p : PP} {e : Ending} (h : s = some p) (hm : Mod [] w w') (he : ∃ g, e = .returned (.tuple #[rval g p, .int .i64 0]) ∧ Blk w' g 23 (rcells p)) : RReadPost w s e w' := by
  subst h; exact ⟨hm, he⟩
theorem scell_at {w : World} {base n c : Nat} {A : Option Addr} {ks : List (List UInt8)} (h : w.ownsRow base 9 1 (.slice A n c) n (ks.map scell)) (j : Nat) (x : List UInt8) (hx : ks[j]? = some x) :
    ∃ g, A = some ⟨g, 0, none⟩ ∧ g < w.heap.size ∧ w.cell? ⟨g, j, none⟩ = some (.string ⟨x.toArray⟩) ∧ n ≤ c := by
  have hjl : j < ks.length := (List.getElem?_eq_some_iff.1 hx).1
  rcases h.2 with ⟨h0, hn⟩ | ⟨g, cap, cur, hv, hb, hg, hnc, _⟩
  · have h1 := h.1
    simp at h1
    omega
  · cases hv
    have r0 := h.cells (g := g) rfl j (scell x) (by rw [List.getElem?_map, hx]; rfl)
    rw [Addr.add_lit, Nat.zero_add] at r0
    exact ⟨g, rfl, Blk.lt hg, r0, hnc⟩
/-- what stands in the way: an id that was there -/
theorem pfold_dup {l : List (Nat × List UInt8)} {j : Nat} (hj : j < l.length) {p : PP} {k : Nat} (hk : k < j) (h : (l[k]'(by omega)).1 = l[j].1) : pfold (l.drop j) ((l.take j).map (·.1)).reverse p = none := by
  rw [pfold_step hj]
  have : ((l.take j).map (·.1)).reverse.contains l[j].1 = true := by
    rw [List.contains_iff_mem, List.mem_reverse, ← h]
    refine List.mem_map.2 ⟨l[k]'(by omega), ?_, rfl⟩
    exact List.mem_iff_getElem.2 ⟨k, by rw [List.length_take]; omega, by simp⟩
  rw [this]; rfl
theorem pfold_go {l : List (Nat × List UInt8)} {j : Nat} (hj : j < l.length) {p : PP} (h : ∀ k (hk : k < j), (l[k]'(by omega)).1 ≠ l[j].1) :
    pfold (l.drop j) ((l.take j).map (·.1)).reverse p = ifb (p.set l[j].1 l[j].2).2 (pfold (l.drop (j + 1)) ((l.take (j + 1)).map (·.1)).reverse (p.set l[j].1 l[j].2).1) := by
  rw [pfold_step hj]
  have h1 : ((l.take j).map (·.1)).reverse.contains l[j].1 = false := by
    cases hc : ((l.take j).map (·.1)).reverse.contains l[j].1
    · rfl
    · rw [List.contains_iff_mem, List.mem_reverse] at hc
      obtain ⟨x, hx, e⟩ := List.mem_map.1 hc
      obtain ⟨k, hk, rfl⟩ := List.mem_iff_getElem.1 hx
      rw [List.length_take] at hk
      exact absurd (by simpa using e) (h k (by omega))
  have h2 : ((l.take (j + 1)).map (·.1)).reverse = l[j].1 :: ((l.take j).map (·.1)).reverse := by
    rw [← List.take_append_getElem hj, List.map_append, List.reverse_append]
    rfl
  rw [h1, h2]; rfl

set_option maxRecDepth 100000 in
set_option maxHeartbeats 16000000 in
theorem rread_any (w : World) (x : ByteArray) (hx : x.size ≤ 65536) :
    Calls Try.prog 11 #[.string x] w (RReadPost w (pread x.data.toList)) := by
  have hids := rids_any (w.alloc (.cells #[.slice none 0 0, .bool false, .string ⟨#[]⟩] 31)) x hx
  have HIds := hide hids
  have hrb0 : Blk (w.alloc (.cells #[.slice none 0 0, .bool false, .string ⟨#[]⟩] 31)) w.heap.size 31 #[.slice none 0 0, .bool false, .string ⟨#[]⟩] := Blk.new _ _ _
  have HRB0 := hide hrb0
  clear hids hrb0
  go_enter Try.func11, Try.ntmps11
  go_wp2_with fail
  refine HIds.out.mono ?_
  rintro e w1 ⟨m1, hi⟩
  have hrb1 := m1.blk HRB0.out (by simp)
  have hm1 := ((Mod.refl [] w).alloc _).trans m1 (by simp)
  have HRB1 := hide hrb1
  unfold RIdsPost at hi
  cases hp : pitems x.data.toList with
  | none =>
    rw [hp] at hi
    subst hi
    have hnone : pread x.data.toList = none := by unfold pread; rw [hp]; rfl
    have HNone := hide hnone
    have rl := hrb1.lt
    have r0 : w1.cell? ⟨w.heap.size, 0, none⟩ = some (.slice none 0 0) := hrb1.cell 0
    have f0 : w1.frozen? ⟨w.heap.size, 0, none⟩ = false := hrb1.frozen 0
    have r1 : w1.cell? ⟨w.heap.size, 1, none⟩ = some (.bool false) := hrb1.cell 1
    have f1 : w1.frozen? ⟨w.heap.size, 1, none⟩ = false := hrb1.frozen 1
    have r2 : w1.cell? ⟨w.heap.size, 2, none⟩ = some (.string ⟨#[]⟩) := hrb1.cell 2
    have f2 : w1.frozen? ⟨w.heap.size, 2, none⟩ = false := hrb1.frozen 2
    clear hp hnone hrb1 m1 HIds
    go_wp2_with fail
    have hb9 := (HRB1.out.sets (fun i => (#[.slice none 0 0, .bool false, .string ⟨#[]⟩] : Array Value).getD i undef) (List.range 3)).alloc (.cells #[.slice none 0 0, .bool false, .string ⟨#[]⟩] 31)
    rw [sets_eq _ _ 3 rfl rfl] at hb9
    exact bodyPost_ret (results_cell_tmp_row rfl _ _ w.heap.size 31 #[.slice none 0 0, .bool false, .string ⟨#[]⟩] _ rfl hb9 Try.underlying31 rfl (by kernel_rfl)) rfl (RReadPost.none_ HNone.out ((hm1.sets (.inr (Nat.le_refl _)) (fun i => (#[.slice none 0 0, .bool false, .string ⟨#[]⟩] : Array Value).getD i undef) (List.range 3)).alloc _) rfl)
  | some l =>
    rw [hp] at hi
    obtain ⟨A, c, B, d, rfl, hownu, howns, hlx⟩ := hi
    have elx : x.data.toList.length = x.size := Array.length_toList
    have hval := pitems_le _ _ _ (Nat.le_refl _) hp
    have hres : pread x.data.toList = pall l := by unfold pread; rw [hp]; rfl
    have HRes := hide hres
    have HVal := hide hval
    obtain ⟨n, hn⟩ : ∃ n, l.length = n := ⟨_, rfl⟩
    rw [hn] at hownu howns hlx ⊢
    have HN := hide hn
    have HU := hide hownu
    have HS := hide howns
    have hrl := hrb1.lt
    clear hp hres hval hn hownu howns hrb1 HIds m1
    go_wp2_with fail
    refine (rfirst_any _ _).mono ?_
    rintro e w2 ⟨g, rfl, hg, hgs, m2⟩
    unfold rval
    go_wp2_with fail
    have hbb : Blk (w1.alloc (.cells #[.slice none 0 0, .bool false, .string ⟨#[]⟩] 31)) w1.heap.size 31 #[.slice none 0 0, .bool false, .string ⟨#[]⟩] := Blk.new _ _ _
    have hrb := HRB1.out.alloc (.cells #[.slice none 0 0, .bool false, .string ⟨#[]⟩] 31)
    obtain ⟨PF, hPF⟩ : ∃ PF, pfirst ⟨#[]⟩ = PF := ⟨_, rfl⟩
    have hstd0 : PF.Std := by rw [← hPF]; exact first_std _
    rw [hPF] at hg ⊢
    have hpb0 : Blk (w2.alloc (.cells #[.slice (some ⟨g, 0, none⟩) 15 15, .bool PF.mig, .string PF.src] 31)) w2.heap.size 31 #[.slice (some ⟨g, 0, none⟩) 15 15, .bool PF.mig, .string PF.src] := Blk.new _ _ _
    have hrbB := (m2.blk hrb (by simp)).alloc (.cells #[.slice (some ⟨g, 0, none⟩) 15 15, .bool PF.mig, .string PF.src] 31)
    have hbbB := (m2.blk hbb (by simp)).alloc (.cells #[.slice (some ⟨g, 0, none⟩) 15 15, .bool PF.mig, .string PF.src] 31)
    have hgB := hg.alloc (.cells #[.slice (some ⟨g, 0, none⟩) 15 15, .bool PF.mig, .string PF.src] 31)
    have huB := ((Mod.refl [] w2).alloc (.cells #[.slice (some ⟨g, 0, none⟩) 15 15, .bool PF.mig, .string PF.src] 31)).own (m2.own (((Mod.refl [] w1).alloc (.cells #[.slice none 0 0, .bool false, .string ⟨#[]⟩] 31)).own HU.out (by simp)) (by simp)) (by simp)
    have hsB := ((Mod.refl [] w2).alloc (.cells #[.slice (some ⟨g, 0, none⟩) 15 15, .bool PF.mig, .string PF.src] 31)).own (m2.own (((Mod.refl [] w1).alloc (.cells #[.slice none 0 0, .bool false, .string ⟨#[]⟩] 31)).own HS.out (by simp)) (by simp)) (by simp)
    have hmB := ((hm1.alloc (.cells #[.slice none 0 0, .bool false, .string ⟨#[]⟩] 31)).trans m2 (by simp)).alloc (.cells #[.slice (some ⟨g, 0, none⟩) 15 15, .bool PF.mig, .string PF.src] 31)
    have hul : ∀ k, (Value.slice A n c).ownBlock = some k → k < w1.heap.size := own_lt HU.out
    have hsl : ∀ k, (Value.slice B n d).ownBlock = some k → k < w1.heap.size := own_lt HS.out
    have hsz12 := m2.size
    rw [World.size_alloc] at hgs hsz12
    obtain ⟨wB, hwB⟩ : ∃ wB, w2.alloc (.cells #[.slice (some ⟨g, 0, none⟩) 15 15, .bool PF.mig, .string PF.src] 31) = wB := ⟨_, rfl⟩
    rw [hwB] at hpb0 hrbB hbbB hgB huB hsB hmB ⊢
    have hgpb : g < w2.heap.size := hg.lt
    obtain ⟨rb, hrbe⟩ : ∃ rb, w.heap.size = rb := ⟨_, rfl⟩
    obtain ⟨bb, hbbe⟩ : ∃ bb, w1.heap.size = bb := ⟨_, rfl⟩
    obtain ⟨pb, hpbe⟩ : ∃ pb, w2.heap.size = pb := ⟨_, rfl⟩
    rw [hbbe] at hul hsl hgs hsz12 hbbB hrl ⊢
    rw [hpbe] at hgpb hpb0 hsz12 ⊢
    have hrw : w.heap.size ≤ rb := by omega
    rw [hrbe] at hrbB hrl ⊢
    have HRw := hide hrw
    have HW : Hid (w.heap.size = rb) := hide hrbe
    have HNr : Hid (rb ≠ pb ∧ rb ≠ g) := hide ⟨by omega, by omega⟩
    have HNb : Hid (bb ≠ pb ∧ bb ≠ g) := hide ⟨by omega, by omega⟩
    have HUl := hide hul
    have HSl := hide hsl
    have HRB := hide hrbB
    have HBB := hide hbbB
    have HUB := hide huB
    have HSB := hide hsB
    have HMB := hide hmB
    have HPB0 := hide hpb0
    have HGB := hide hgB
    have HStd0 := hide hstd0
    have HPF := hide hPF
    clear hrb hbb hg hpb0 hrbB hbbB hgB huB hsB hmB hul hsl hwB hrbe hbbe hpbe m2 hm1 HRB0 HRB1 HU HS hrw hstd0 hPF
    go_loopw [9] (fun iv wr => ∃ (j : Nat) (p : PP), j ≤ n ∧ iv = .int .i64 (j : Int) ∧ p.Std ∧ Blk wr pb 31 #[.slice (some ⟨g, 0, none⟩) 15 15, .bool p.mig, .string p.src] ∧ Blk wr g 23 (rcells p) ∧ Hid (pfold l [] PF = pfold (l.drop j) ((l.take j).map (·.1)).reverse p) ∧ Mod [pb, g] wB wr) (fun iv _ => n - (intOf iv).toNat)
    case atStart => exact ⟨0, PF, by omega, rfl, HStd0.out, HPB0.out, HGB.out, hide rfl, Mod.refl _ _⟩
    case round =>
      clear HPB0 HGB HStd0
      obtain ⟨j, p, hj, rfl, hstd, hpb, hg, hrest, hm⟩ := hrel
      have hmW : Mod [] w wr := HMB.out.trans hm (fun y hy => by simp at hy; have := HW.out; right; omega)
      by_cases h : j < n
      · have hjl : j < l.length := by rw [HN.out]; exact h
        obtain ⟨v0, hv0⟩ : ∃ y, l[j] = y := ⟨_, rfl⟩
        obtain ⟨gu, rfl, hgul, cu, hnc⟩ := ucell_at (ks := l.map (·.1)) (hm.own (by rw [List.map_map]; exact HUB.out) (fun k hk hf => by have := HUl.out k hk; simp at hf; omega)) j l[j].1 (by rw [List.getElem?_map, List.getElem?_eq_getElem hjl]; rfl)
        obtain ⟨gs, rfl, hgsl, cs, hnd⟩ := scell_at (ks := l.map (·.2)) (hm.own (by rw [List.map_map]; exact HSB.out) (fun k hk hf => by have := HSl.out k hk; simp at hf; omega)) j l[j].2 (by rw [List.getElem?_map, List.getElem?_eq_getElem hjl]; rfl)
        have hat : ∀ k (hk : k < l.length), wr.cell? ⟨gu, k, none⟩ = some (.int .u64 (l[k].1 : Nat)) := fun k hk => by
          obtain ⟨g', he, _, c', _⟩ := ucell_at (ks := l.map (·.1)) (hm.own (by rw [List.map_map]; exact HUB.out) (fun k hk hf => by have := HUl.out k hk; simp at hf; omega)) k l[k].1 (by rw [List.getElem?_map, List.getElem?_eq_getElem hk]; rfl)
          cases he; exact c'
        have hyv := HVal.out l[j] (List.getElem_mem hjl)
        have hdup := fun (k : Nat) (hk : k < j) (h : (l[k]'(by omega)).1 = l[j].1) => pfold_dup hjl (p := p) hk h
        have hgo := pfold_go hjl (p := p)
        have hids' : ∀ k (hk : k < l.length), ∃ z, l[k].1 = z ∧ wr.cell? ⟨gu, k, none⟩ = some (.int .u64 (z : Nat)) := fun k hk => ⟨_, rfl, hat k hk⟩
        obtain ⟨id, hid⟩ : ∃ id, l[j].1 = id := ⟨_, rfl⟩
        obtain ⟨V, hV⟩ : ∃ V : ByteArray, ⟨l[j].2.toArray⟩ = V := ⟨_, rfl⟩
        have hyV : l[j].2 = V.data.toList := by rw [← hV]
        rw [hV] at cs
        rw [hid] at cu hdup hgo hyv
        rw [hyV] at hgo hyv
        have hVs : V.size ≤ 65536 := by have h1 := hyv.1; rw [bytes_len, elx] at h1; omega
        have hnone1 : ∀ (k : Nat) (hk : k < j), (l[k]'(by omega)).1 = id → pread x.data.toList = none := fun k hk h => by
          rw [HRes.out]; unfold pall; rw [HPF.out, hrest.out, hdup k hk h]; rfl
        have HNone1 := hide hnone1
        have HGo := hide hgo
        have HIds := hide hids'
        have HPb := hide hpb
        have HG := hide hg
        have HStd := hide hstd
        have HM := hide hm
        have HMW := hide hmW
        have hpl := hpb.lt
        have hgl := hg.lt
        clear hat hyv hdup hgo hids' hv0 v0 hid hV hyV hnone1 hpb hg hstd hm hmW
        go_upto_block 2 with fail
        go_cut [] (fun wx => (∃ k, wx = wr.drewN k) ∧ Hid (∀ k (hk : k < j), (l[k]'(by omega)).1 ≠ id))
        case first =>
          obtain ⟨wo, rfl⟩ : ∃ wo : World, wo = wr := ⟨_, rfl⟩
          clear cs
          go_wp2_with fail
          go_loopw [10] (fun kv wr => ∃ k : Nat, k ≤ j ∧ kv = .int .i64 (k : Int) ∧ (∃ m, wr = wo.drewN m) ∧ Hid (∀ q (hq : q < k), ∀ h2 : q < j, (l[q]'(by omega)).1 ≠ id)) (fun kv _ => j - (intOf kv).toNat)
          case atStart => exact ⟨0, by omega, rfl, ⟨0, rfl⟩, hide (fun q hq => by omega)⟩
          case round =>
            obtain ⟨k, hk, rfl, ⟨m, rfl⟩, hne⟩ := hrel
            by_cases hkj : k < j
            · obtain ⟨z, hz, cz⟩ := HIds.out k (by omega)
              by_cases hzid : z = id
              · have hnn := HNone1.out k hkj (by rw [hz, hzid])
                have HNn := hide hnn
                subst hzid
                clear hnn hz HGo HIds HNone1
                go_wp2_with fail
                go_quiet (fail)
                have hrb9 := (HM.out.drewN (m + nq)).blk HRB.out (by simpa using HNr.out)
                have hbb9 := (HM.out.drewN (m + nq)).blk HBB.out (by simpa using HNb.out)
                have rl := hrb9.lt
                have bl := hbb9.lt
                have r0 : (wo.drewN (m + nq)).cell? ⟨rb, 0, none⟩ = some (.slice none 0 0) := hrb9.cell 0
                have f0 : (wo.drewN (m + nq)).frozen? ⟨rb, 0, none⟩ = false := hrb9.frozen 0
                have k0 : (wo.drewN (m + nq)).cell? ⟨bb, 0, none⟩ = some (.slice none 0 0) := hbb9.cell 0
                have r1 : (wo.drewN (m + nq)).cell? ⟨rb, 1, none⟩ = some (.bool false) := hrb9.cell 1
                have f1 : (wo.drewN (m + nq)).frozen? ⟨rb, 1, none⟩ = false := hrb9.frozen 1
                have k1 : (wo.drewN (m + nq)).cell? ⟨bb, 1, none⟩ = some (.bool false) := hbb9.cell 1
                have r2 : (wo.drewN (m + nq)).cell? ⟨rb, 2, none⟩ = some (.string ⟨#[]⟩) := hrb9.cell 2
                have f2 : (wo.drewN (m + nq)).frozen? ⟨rb, 2, none⟩ = false := hrb9.frozen 2
                have k2 : (wo.drewN (m + nq)).cell? ⟨bb, 2, none⟩ = some (.string ⟨#[]⟩) := hbb9.cell 2
                have HRB9 := hide hrb9
                clear hrb9 hbb9

                go_wp2_with fail
                have hb9 := HRB9.out.sets (fun i => (#[.slice none 0 0, .bool false, .string ⟨#[]⟩] : Array Value).getD i undef) (List.range 3)
                rw [sets_eq _ _ 3 rfl rfl] at hb9
                exact bodyPost_ret (results_cell_tmp_row rfl _ _ rb 31 #[.slice none 0 0, .bool false, .string ⟨#[]⟩] _ rfl hb9 Try.underlying31 rfl (by kernel_rfl)) rfl (RReadPost.none_ HNn.out ((HMW.out.drewN (m + nq)).sets (.inr HRw.out) (fun i => (#[.slice none 0 0, .bool false, .string ⟨#[]⟩] : Array Value).getD i undef) (List.range 3)) rfl)
              · have b1 : ((z : Int) == (id : Int)) = false := by simp; omega
                have b2 : (z == id) = false := by simpa using hzid
                have hne' : Hid (∀ q (hq : q < k + 1), ∀ h2 : q < j, (l[q]'(by omega)).1 ≠ id) := hide (fun q hq h2 => by
                  by_cases e : q = k
                  · subst e; rw [hz]; exact hzid
                  · exact hne.out q (by omega) h2)
                clear hz HGo HIds HNone1 hne
                go_wp2_with fail
                go_quiet (fail)
                go_wp2_with fail
                go_roundw
                case rel => exact ⟨k + 1, by omega, by go_num, by first | exact ⟨_, rfl⟩ | exact ⟨_, World.drewN_drewN _ _ _⟩, hne'⟩
                case measure => simp [intOf]; omega
            · have hkj2 : k = j := by omega
              subst hkj2
              clear HGo HIds HNone1
              go_wp2_with fail
              go_meet
              exact ⟨⟨_, rfl⟩, hide (fun q hq => hne.out q hq hq)⟩
        case rest =>
          obtain ⟨⟨kd, hkd⟩, hne⟩ := hcut
          subst hkd
          have hcont : ∀ q b, p.set id V.data.toList = (q, b) → pfold l [] PF = ifb b (pfold (l.drop (j + 1)) ((l.take (j + 1)).map (·.1)).reverse q) := fun q b h => by
            rw [hrest.out, HGo.out hne.out, h]
          have hnone : ∀ q, p.set id V.data.toList = (q, false) → pread x.data.toList = none := fun q h => by
            rw [HRes.out]; unfold pall; rw [HPF.out, hcont q false h]; rfl
          have HCont := hide hcont
          have HNone := hide hnone
          have HMd := hide (HM.out.drewN kd)
          have HMWd := hide (HMW.out.drewN kd)
          have hcu : (wr.drewN kd).cell? ⟨gu, j, none⟩ = some (.int .u64 (id : Nat)) := cu
          have hcs : (wr.drewN kd).cell? ⟨gs, j, none⟩ = some (.string V) := cs
          have hpbd : Blk (wr.drewN kd) pb 31 #[.slice (some ⟨g, 0, none⟩) 15 15, .bool p.mig, .string p.src] := HPb.out
          have hgd : Blk (wr.drewN kd) g 23 (rcells p) := HG.out
          obtain ⟨wd, hwd⟩ : ∃ wd, wr.drewN kd = wd := ⟨_, rfl⟩
          have hsd : wd.heap.size = wr.heap.size := by rw [← hwd]; rfl
          rw [hwd] at HMd HMWd hcu hcs hpbd hgd ⊢
          rw [← hsd] at hgul hgsl hpl hgl
          have HPbd := hide hpbd
          have HGd := hide hgd
          have hes := empty_size V
          clear hne hcont hnone HGo HIds HNone1 HM HMW HPb HG cu cs hrest hpbd hgd hwd hsd
          by_cases h0 : id = 0 ∨ id = 2 ∨ id = 13 ∨ id = 16
          · have hs : p.set id V.data.toList = (p, false) := by unfold PP.set; rw [if_pos h0]
            have hnn := HNone.out _ hs
            have HNn := hide hnn
            clear hs hnn hes
            have hrb9 := (HMd.out).blk HRB.out (by simpa using HNr.out)
            have hbb9 := (HMd.out).blk HBB.out (by simpa using HNb.out)
            have rl := hrb9.lt
            have bl := hbb9.lt
            have r0 : wd.cell? ⟨rb, 0, none⟩ = some (.slice none 0 0) := hrb9.cell 0
            have f0 : wd.frozen? ⟨rb, 0, none⟩ = false := hrb9.frozen 0
            have k0 : wd.cell? ⟨bb, 0, none⟩ = some (.slice none 0 0) := hbb9.cell 0
            have r1 : wd.cell? ⟨rb, 1, none⟩ = some (.bool false) := hrb9.cell 1
            have f1 : wd.frozen? ⟨rb, 1, none⟩ = false := hrb9.frozen 1
            have k1 : wd.cell? ⟨bb, 1, none⟩ = some (.bool false) := hbb9.cell 1
            have r2 : wd.cell? ⟨rb, 2, none⟩ = some (.string ⟨#[]⟩) := hrb9.cell 2
            have f2 : wd.frozen? ⟨rb, 2, none⟩ = false := hrb9.frozen 2
            have k2 : wd.cell? ⟨bb, 2, none⟩ = some (.string ⟨#[]⟩) := hbb9.cell 2
            have HRB9 := hide hrb9
            clear hrb9 hbb9

            rcases h0 with rfl | rfl | rfl | rfl
            all_goals
              go_wp2_with fail
              have hb9 := HRB9.out.sets (fun i => (#[.slice none 0 0, .bool false, .string ⟨#[]⟩] : Array Value).getD i undef) (List.range 3)
              rw [sets_eq _ _ 3 rfl rfl] at hb9
              exact bodyPost_ret (results_cell_tmp_row rfl _ _ rb 31 #[.slice none 0 0, .bool false, .string ⟨#[]⟩] _ rfl hb9 Try.underlying31 rfl (by kernel_rfl)) rfl (RReadPost.none_ HNn.out ((HMWd.out).sets (.inr HRw.out) (fun i => (#[.slice none 0 0, .bool false, .string ⟨#[]⟩] : Array Value).getD i undef) (List.range 3)) rfl)

          have n0 : ((id : Int) == 0) = false := by simp; omega
          have n2 : ((id : Int) == 2) = false := by simp; omega
          have n13 : ((id : Int) == 13) = false := by simp; omega
          have n16 : ((id : Int) == 16) = false := by simp; omega
          by_cases h12 : id = 12
          · subst h12
            have hset : p.set 12 V.data.toList = ({ p with mig := true }, V.data.toList.isEmpty) := rfl
            have hve : V.data.toList.isEmpty = decide (V.size = 0) := by rw [← hes, Lib.toList_data]
            by_cases hvz : 0 < V.size
            · rw [hve, decide_eq_false (by omega)] at hset
              have hnn := HNone.out _ hset
              have HNn := hide hnn
              have hvz' : decide ((0 : Int) < V.size) = true := decide_eq_true (by omega)
              have hvz2 : decide (0 < V.size) = true := decide_eq_true hvz
              clear hset hnn hve hes n0 n2 n13 n16 h0
              have hrb9 := (HMd.out).blk HRB.out (by simpa using HNr.out)
              have hbb9 := (HMd.out).blk HBB.out (by simpa using HNb.out)
              have rl := hrb9.lt
              have bl := hbb9.lt
              have r0 : wd.cell? ⟨rb, 0, none⟩ = some (.slice none 0 0) := hrb9.cell 0
              have f0 : wd.frozen? ⟨rb, 0, none⟩ = false := hrb9.frozen 0
              have k0 : wd.cell? ⟨bb, 0, none⟩ = some (.slice none 0 0) := hbb9.cell 0
              have r1 : wd.cell? ⟨rb, 1, none⟩ = some (.bool false) := hrb9.cell 1
              have f1 : wd.frozen? ⟨rb, 1, none⟩ = false := hrb9.frozen 1
              have k1 : wd.cell? ⟨bb, 1, none⟩ = some (.bool false) := hbb9.cell 1
              have r2 : wd.cell? ⟨rb, 2, none⟩ = some (.string ⟨#[]⟩) := hrb9.cell 2
              have f2 : wd.frozen? ⟨rb, 2, none⟩ = false := hrb9.frozen 2
              have k2 : wd.cell? ⟨bb, 2, none⟩ = some (.string ⟨#[]⟩) := hbb9.cell 2
              have HRB9 := hide hrb9
              clear hrb9 hbb9
              go_wp2_with fail
              have hb9 := HRB9.out.sets (fun i => (#[.slice none 0 0, .bool false, .string ⟨#[]⟩] : Array Value).getD i undef) (List.range 3)
              rw [sets_eq _ _ 3 rfl rfl] at hb9
              exact bodyPost_ret (results_cell_tmp_row rfl _ _ rb 31 #[.slice none 0 0, .bool false, .string ⟨#[]⟩] _ rfl hb9 Try.underlying31 rfl (by kernel_rfl)) rfl (RReadPost.none_ HNn.out ((HMWd.out).sets (.inr HRw.out) (fun i => (#[.slice none 0 0, .bool false, .string ⟨#[]⟩] : Array Value).getD i undef) (List.range 3)) rfl)

            · rw [hve, decide_eq_true (by omega)] at hset
              have hco := HCont.out _ _ hset
              have HCo := hide hco
              have hvz' : decide ((0 : Int) < V.size) = false := decide_eq_false (by omega)
              have hvz2 : decide (0 < V.size) = false := decide_eq_false hvz
              have HNum := hide (fun w => rnumber_any w 12 false rfl)
              have p1 : wd.cell? ⟨pb, 1, none⟩ = some (.bool p.mig) := HPbd.out.cell 1
              have pf1 : wd.frozen? ⟨pb, 1, none⟩ = false := HPbd.out.frozen 1
              have hpb9 := HPbd.out.set_ 1 (.bool true)
              have HPb9 : Hid (Blk (wd.setCell ⟨pb, 1, none⟩ (.bool true)) pb 31 #[.slice (some ⟨g, 0, none⟩) 15 15, .bool true, .string p.src]) := hide hpb9
              have HG9 := hide (HGd.out.far (p := ⟨pb, 1, none⟩) (by show g ≠ pb; omega) (.bool true))
              have HM9 := hide (HMd.out.setCell (p := ⟨pb, 1, none⟩) (.inl (by simp)) (.bool true))
              have HStd9 : Hid ({ p with mig := true } : PP).Std := hide HStd.out
              clear hset hco hve hes n0 n2 n13 n16 h0 hpb9
              go_wp2_with fail
              refine (HNum.out _).mono ?_
              rintro e w5 ⟨rfl, rfl⟩
              go_wp2_with fail
              go_roundw
              case rel => exact ⟨j + 1, { p with mig := true }, by omega, by go_num, HStd9.out, HPb9.out, HG9.out, HCo, HM9.out⟩
              case measure => simp [intOf]; omega
          have n12 : ((id : Int) == 12) = false := by simp; omega
          by_cases h15 : id = 15
          · subst h15
            have hset : p.set 15 V.data.toList = ({ p with src := V }, true) := by
              show ({ p with src := ⟨V.data.toList.toArray⟩ }, true) = _
              rw [eta_bytes]
            have hco := HCont.out _ _ hset
            have HCo := hide hco
            have HNum := hide (fun w => rnumber_any w 15 false rfl)
            have p2 : wd.cell? ⟨pb, 2, none⟩ = some (.string p.src) := HPbd.out.cell 2
            have pf2 : wd.frozen? ⟨pb, 2, none⟩ = false := HPbd.out.frozen 2
            have hpb9 := HPbd.out.set_ 2 (.string V)
            have HPb9 : Hid (Blk (wd.setCell ⟨pb, 2, none⟩ (.string V)) pb 31 #[.slice (some ⟨g, 0, none⟩) 15 15, .bool p.mig, .string V]) := hide hpb9
            have HG9 := hide (HGd.out.far (p := ⟨pb, 2, none⟩) (by show g ≠ pb; omega) (.string V))
            have HM9 := hide (HMd.out.setCell (p := ⟨pb, 2, none⟩) (.inl (by simp)) (.string V))
            have HStd9 : Hid ({ p with src := V } : PP).Std := hide HStd.out
            clear hset hco hes n0 n2 n13 n16 h0 hpb9 n12 h12
            go_wp2_with fail
            refine (HNum.out _).mono ?_
            rintro e w5 ⟨rfl, rfl⟩
            go_wp2_with fail
            go_roundw
            case rel => exact ⟨j + 1, { p with src := V }, by omega, by go_num, HStd9.out, HPb9.out, HG9.out, HCo, HM9.out⟩
            case measure => simp [intOf]; omega
          have n15 : ((id : Int) == 15) = false := by simp; omega
          cases hpi : pidx (id : Int) with
          | none =>
            have hset : p.set id V.data.toList = (p, true) := by
              unfold PP.set; rw [if_neg h0, if_neg h12, if_neg h15, hpi]
            have hco := HCont.out _ _ hset
            have HCo := hide hco
            have HNum := hide (fun w => rnumber_any w id false (by rw [hpi]; rfl))
            clear hset hco hes h0 h12 h15 hpi
            go_wp2_with fail
            refine (HNum.out _).mono ?_
            rintro e w5 ⟨rfl, rfl⟩
            go_wp2_with fail
            go_roundw
            case rel => exact ⟨j + 1, p, by omega, by go_num, HStd.out, HPbd.out, HGd.out, HCo, HMd.out⟩
            case measure => simp [intOf]; omega
          | some t =>
            have hid15 : id < 15 := by obtain ⟨h1, h2⟩ := pidx_some hpi; have := nkey_lt t; omega
            have hset : p.set id V.data.toList = (p.setN id (short V.data.toList).n, (short V.data.toList).ok && (short V.data.toList).rest.isEmpty) := by
              unfold PP.set; rw [if_neg h0, if_neg h12, if_neg h15, hpi]
            have HNum := hide (fun w => rnumber_any w id true (by rw [hpi]; rfl))
            have hrset := rcells_set (p := p) hpi (short V.data.toList).n
            have HStd9 := hide (setN_std HStd.out hpi (short V.data.toList).n)
            have hNv := fun w => rshort_any w V (by omega)
            obtain ⟨nn, hnn⟩ : ∃ n, (short V.data.toList).n = n := ⟨_, rfl⟩
            obtain ⟨R, hR⟩ : ∃ R : ByteArray, R = ⟨(short V.data.toList).rest.toArray⟩ := ⟨_, rfl⟩
            obtain ⟨k, hk⟩ : ∃ k, (short V.data.toList).ok = k := ⟨_, rfl⟩
            have hRe : (short V.data.toList).rest.isEmpty = decide (R.size = 0) := by rw [← empty_size, Lib.toList_data, hR]
            have hR2 : str (short V.data.toList).rest = .string R := by rw [hR]; rfl
            rw [hnn, hR2, hk] at hNv
            rw [hnn, hk, hRe] at hset
            rw [hnn] at hrset HStd9
            have HNv := hide hNv
            have HRs := hide hrset
            clear hNv hR hR2 hRe hnn hk hrset hes h0 h12 h15 hpi
            cases k
            · have hnn := HNone.out _ hset
              have HNn := hide hnn
              clear hset hnn
              go_wp2_with fail
              refine (HNum.out _).mono ?_
              rintro e w5 ⟨rfl, rfl⟩
              go_wp2_with fail
              refine (HNv.out _).mono ?_
              rintro e w6 ⟨rfl, m6⟩
              have HM6 := hide (HMd.out.trans m6 (by simp))
              have HMW6 := hide (HMWd.out.trans m6 (by simp))
              have hrb9 := (HM6.out).blk HRB.out (by simpa using HNr.out)
              have hbb9 := (HM6.out).blk HBB.out (by simpa using HNb.out)
              have rl := hrb9.lt
              have bl := hbb9.lt
              have r0 : w6.cell? ⟨rb, 0, none⟩ = some (.slice none 0 0) := hrb9.cell 0
              have f0 : w6.frozen? ⟨rb, 0, none⟩ = false := hrb9.frozen 0
              have k0 : w6.cell? ⟨bb, 0, none⟩ = some (.slice none 0 0) := hbb9.cell 0
              have r1 : w6.cell? ⟨rb, 1, none⟩ = some (.bool false) := hrb9.cell 1
              have f1 : w6.frozen? ⟨rb, 1, none⟩ = false := hrb9.frozen 1
              have k1 : w6.cell? ⟨bb, 1, none⟩ = some (.bool false) := hbb9.cell 1
              have r2 : w6.cell? ⟨rb, 2, none⟩ = some (.string ⟨#[]⟩) := hrb9.cell 2
              have f2 : w6.frozen? ⟨rb, 2, none⟩ = false := hrb9.frozen 2
              have k2 : w6.cell? ⟨bb, 2, none⟩ = some (.string ⟨#[]⟩) := hbb9.cell 2
              have HRB9 := hide hrb9
              clear hrb9 hbb9
              go_wp2_with fail
              have hb9 := HRB9.out.sets (fun i => (#[.slice none 0 0, .bool false, .string ⟨#[]⟩] : Array Value).getD i undef) (List.range 3)
              rw [sets_eq _ _ 3 rfl rfl] at hb9
              exact bodyPost_ret (results_cell_tmp_row rfl _ _ rb 31 #[.slice none 0 0, .bool false, .string ⟨#[]⟩] _ rfl hb9 Try.underlying31 rfl (by kernel_rfl)) rfl (RReadPost.none_ HNn.out ((HMW6.out).sets (.inr HRw.out) (fun i => (#[.slice none 0 0, .bool false, .string ⟨#[]⟩] : Array Value).getD i undef) (List.range 3)) rfl)

            · by_cases hrz : 0 < R.size
              · rw [decide_eq_false (by omega)] at hset
                have hnn := HNone.out _ hset
                have HNn := hide hnn
                have hvz' : decide ((0 : Int) < R.size) = true := decide_eq_true (by omega)
                have hvz2 : decide (0 < R.size) = true := decide_eq_true hrz
                clear hset hnn
                go_wp2_with fail
                refine (HNum.out _).mono ?_
                rintro e w5 ⟨rfl, rfl⟩
                go_wp2_with fail
                refine (HNv.out _).mono ?_
                rintro e w6 ⟨rfl, m6⟩
                have HM6 := hide (HMd.out.trans m6 (by simp))
                have HMW6 := hide (HMWd.out.trans m6 (by simp))
                have hrb9 := (HM6.out).blk HRB.out (by simpa using HNr.out)
                have hbb9 := (HM6.out).blk HBB.out (by simpa using HNb.out)
                have rl := hrb9.lt
                have bl := hbb9.lt
                have r0 : w6.cell? ⟨rb, 0, none⟩ = some (.slice none 0 0) := hrb9.cell 0
                have f0 : w6.frozen? ⟨rb, 0, none⟩ = false := hrb9.frozen 0
                have k0 : w6.cell? ⟨bb, 0, none⟩ = some (.slice none 0 0) := hbb9.cell 0
                have r1 : w6.cell? ⟨rb, 1, none⟩ = some (.bool false) := hrb9.cell 1
                have f1 : w6.frozen? ⟨rb, 1, none⟩ = false := hrb9.frozen 1
                have k1 : w6.cell? ⟨bb, 1, none⟩ = some (.bool false) := hbb9.cell 1
                have r2 : w6.cell? ⟨rb, 2, none⟩ = some (.string ⟨#[]⟩) := hrb9.cell 2
                have f2 : w6.frozen? ⟨rb, 2, none⟩ = false := hrb9.frozen 2
                have k2 : w6.cell? ⟨bb, 2, none⟩ = some (.string ⟨#[]⟩) := hbb9.cell 2
                have HRB9 := hide hrb9
                clear hrb9 hbb9
                go_wp2_with fail
                have hb9 := HRB9.out.sets (fun i => (#[.slice none 0 0, .bool false, .string ⟨#[]⟩] : Array Value).getD i undef) (List.range 3)
                rw [sets_eq _ _ 3 rfl rfl] at hb9
                exact bodyPost_ret (results_cell_tmp_row rfl _ _ rb 31 #[.slice none 0 0, .bool false, .string ⟨#[]⟩] _ rfl hb9 Try.underlying31 rfl (by kernel_rfl)) rfl (RReadPost.none_ HNn.out ((HMW6.out).sets (.inr HRw.out) (fun i => (#[.slice none 0 0, .bool false, .string ⟨#[]⟩] : Array Value).getD i undef) (List.range 3)) rfl)

              · rw [decide_eq_true (by omega)] at hset
                have hco := HCont.out _ _ hset
                have HCo := hide hco
                have hvz' : decide ((0 : Int) < R.size) = false := decide_eq_false (by omega)
                have hvz2 : decide (0 < R.size) = false := decide_eq_false hrz
                clear hset hco
                go_wp2_with fail
                refine (HNum.out _).mono ?_
                rintro e w5 ⟨rfl, rfl⟩
                go_wp2_with fail
                refine (HNv.out _).mono ?_
                rintro e w6 ⟨rfl, m6⟩
                have hpb6 := m6.blk HPbd.out (by simp)
                have hg6 := m6.blk HGd.out (by simp)
                have HM6 := hide (HMd.out.trans m6 (by simp))
                have p0 : w6.cell? ⟨pb, 0, none⟩ = some (.slice (some ⟨g, 0, none⟩) 15 15) := hpb6.cell 0
                have gi := (hg6.cell id).trans (rcells_at HStd.out hid15)
                have gf := hg6.frozen id
                have hpl6 := hpb6.lt
                have hgl6 := hg6.lt
                have hg9 := hg6.set_ id (.int .u64 (nn : Nat))
                rw [HRs.out] at hg9
                have HG9 := hide hg9
                have HPb9 := hide (hpb6.far (p := ⟨g, id, none⟩) (by show pb ≠ g; omega) (.int .u64 (nn : Nat)))
                have HM9 := hide (HM6.out.setCell (p := ⟨g, id, none⟩) (.inl (by simp)) (.int .u64 (nn : Nat)))
                clear hpb6 hg6 hg9 m6
                go_wp2_with fail
                go_roundw
                case rel => exact ⟨j + 1, p.setN id nn, by omega, by go_num, HStd9.out, HPb9.out, HG9.out, HCo, HM9.out⟩
                case measure => simp [intOf]; omega
      · have hjn : j = n := by omega
        subst hjn
        have hfin : pread x.data.toList = if may p then some p else none := by
          rw [HRes.out]; unfold pall
          rw [HPF.out, hrest.out, List.drop_of_length_le (by rw [HN.out]; exact Nat.le_refl _)]
          rfl
        have HFin := hide hfin
        have HStd := hide hstd
        have HPb := hide hpb
        have HG := hide hg
        have p0 : wr.cell? ⟨pb, 0, none⟩ = some (.slice (some ⟨g, 0, none⟩) 15 15) := hpb.cell 0
        have p1 : wr.cell? ⟨pb, 1, none⟩ = some (.bool p.mig) := hpb.cell 1
        have p2 : wr.cell? ⟨pb, 2, none⟩ = some (.string p.src) := hpb.cell 2
        have hpl := hpb.lt
        have HMy := hide (rmay_any wr g p hstd hg)
        have HM := hide hm
        have HMW := hide hmW
        clear hfin hstd hpb hg hrest hm hmW
        go_wp2_with fail
        refine HMy.out.mono ?_
        rintro e w5 ⟨rfl, m5⟩
        have hpb5 := m5.blk HPb.out (by simp)
        have hg5 := m5.blk HG.out (by simp)
        have HM5 := hide (HM.out.trans m5 (by simp))
        have HMW5 := hide (HMW.out.trans m5 (by simp))
        have p0 : w5.cell? ⟨pb, 0, none⟩ = some (.slice (some ⟨g, 0, none⟩) 15 15) := hpb5.cell 0
        have p1 : w5.cell? ⟨pb, 1, none⟩ = some (.bool p.mig) := hpb5.cell 1
        have p2 : w5.cell? ⟨pb, 2, none⟩ = some (.string p.src) := hpb5.cell 2
        have hpl := hpb5.lt
        have HG5 := hide hg5
        clear m5 hpb5 hg5 HMy HG HPb
        have hrb9 := (HM5.out).blk HRB.out (by simpa using HNr.out)
        have hbb9 := (HM5.out).blk HBB.out (by simpa using HNb.out)
        have rl := hrb9.lt
        have bl := hbb9.lt
        have r0 : w5.cell? ⟨rb, 0, none⟩ = some (.slice none 0 0) := hrb9.cell 0
        have f0 : w5.frozen? ⟨rb, 0, none⟩ = false := hrb9.frozen 0
        have k0 : w5.cell? ⟨bb, 0, none⟩ = some (.slice none 0 0) := hbb9.cell 0
        have r1 : w5.cell? ⟨rb, 1, none⟩ = some (.bool false) := hrb9.cell 1
        have f1 : w5.frozen? ⟨rb, 1, none⟩ = false := hrb9.frozen 1
        have k1 : w5.cell? ⟨bb, 1, none⟩ = some (.bool false) := hbb9.cell 1
        have r2 : w5.cell? ⟨rb, 2, none⟩ = some (.string ⟨#[]⟩) := hrb9.cell 2
        have f2 : w5.frozen? ⟨rb, 2, none⟩ = false := hrb9.frozen 2
        have k2 : w5.cell? ⟨bb, 2, none⟩ = some (.string ⟨#[]⟩) := hbb9.cell 2
        have HRB9 := hide hrb9
        clear hrb9 hbb9
        cases hmy : may p
        · rw [hmy] at HFin
          clear hmy
          go_wp2_with fail
          have hb9 := HRB9.out.sets (fun i => (#[.slice none 0 0, .bool false, .string ⟨#[]⟩] : Array Value).getD i undef) (List.range 3)
          rw [sets_eq _ _ 3 rfl rfl] at hb9
          exact bodyPost_ret (results_cell_tmp_row rfl _ _ rb 31 #[.slice none 0 0, .bool false, .string ⟨#[]⟩] _ rfl hb9 Try.underlying31 rfl (by kernel_rfl)) rfl (RReadPost.none_ HFin.out ((HMW5.out).sets (.inr HRw.out) (fun i => (#[.slice none 0 0, .bool false, .string ⟨#[]⟩] : Array Value).getD i undef) (List.range 3)) rfl)
        · rw [hmy] at HFin
          clear hmy
          have hnr := HNr.out
          have hgr := hide (HG5.out.lt)
          go_wp2_with fail
          have hb9 := HRB9.out.sets (fun i => (#[.slice (some ⟨g, 0, none⟩) 15 15, .bool p.mig, .string p.src] : Array Value).getD i undef) (List.range 3)
          rw [sets_eq _ _ 3 rfl rfl] at hb9
          refine bodyPost_ret (results_cell_tmp_row rfl _ _ rb 31 (#[.slice (some ⟨g, 0, none⟩) 15 15, .bool p.mig, .string p.src] : Array Value) _ rfl hb9 Try.underlying31 rfl (by kernel_rfl)) rfl (RReadPost.some_ HFin.out ((HMW5.out).sets (.inr HRw.out) (fun i => (#[.slice (some ⟨g, 0, none⟩) 15 15, .bool p.mig, .string p.src] : Array Value).getD i undef) (List.range 3)) ⟨g, rfl, ?_⟩)
          exact ((HG5.out.far (p := ⟨rb, 0, none⟩) (by show g ≠ rb; omega) _).far (p := ⟨rb, 1, none⟩) (by show g ≠ rb; omega) _).far (p := ⟨rb, 2, none⟩) (by show g ≠ rb; omega) _
end Go.Proofs.Ytampdiplodhkbaa
