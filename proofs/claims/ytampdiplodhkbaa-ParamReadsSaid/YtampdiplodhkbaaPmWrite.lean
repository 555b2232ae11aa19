/-
  parameters: the walk of Write.
-/
import Derived.Test.YtampdiplodhkbaaPmWriteP
import Derived.Deep.CutBlock
import Derived.Deep.DeepCutAuto
namespace Go.Proofs.Ytampdiplodhkbaa
open Go.RowKit

def WritePost (w : World) (o : Bool) (b : List UInt8) (e : Ending) (w' : World) : Prop := Mod [] w w' ∧ if o then e = .returned (.tuple #[str b, .int .i64 0]) else e = .returned (.tuple #[str [], .int .i64 2])
theorem WritePost.no {w w' : World} {o : Bool} {b : List UInt8} {e : Ending} (h : o = false) (hm : Mod [] w w') (he : e = .returned (.tuple #[.string ⟨#[]⟩, .int .i64 2])) : WritePost w o b e w' := by
  subst h; exact ⟨hm, he⟩
theorem WritePost.yes {w w' : World} {o : Bool} {b : List UInt8} {e : Ending} (h : o = true) (hm : Mod [] w w') (he : e = .returned (.tuple #[str b, .int .i64 0])) : WritePost w o b e w' := by
  subst h; exact ⟨hm, he⟩

set_option maxRecDepth 100000 in
set_option maxHeartbeats 8000000 in
theorem write_any (w : World) (p : PP) (hs : p.src.size ≤ 65536) :
    Calls Try.prog 15 #[pval p] w (WritePost w (may p) (pwrite p)) := by
  have hb0 : Blk (w.alloc (.cells (pcells p) 25)) w.heap.size 25 (pcells p) := Blk.new _ _ _
  have hm0 : Mod [] w (w.alloc (.cells (pcells p) 25)) := (Mod.refl _ _).alloc _
  have hmk := @run_makeMap Try.prog
  have HB0 := hide hb0
  have HM0 := hide hm0
  clear hb0 hm0
  unfold pval pcells at *
  go_enter Try.func15, Try.ntmps15
  go_wp2_with fail
  obtain ⟨w0, hw0⟩ : ∃ w0, w.alloc (.cells (pcells p) 25) = w0 := ⟨_, rfl⟩
  unfold pcells at hw0
  rw [hw0] at HB0 HM0 ⊢
  refine (may_any _ p).mono ?_
  rintro e w1 ⟨rfl, m1⟩
  cases hmy : may p
  · have Hmy := hide hmy
    clear hmy
    go_wp2_with fail
    go_ret2
    exact WritePost.no Hmy.out (HM0.out.trans m1 (by simp)) rfl
  have Hmy := hide hmy
  clear hmy
  have hpb := m1.blk HB0.out (by simp)
  have hm := HM0.out.trans m1 (by simp)
  have hpl := hpb.lt
  have c12 : w1.cell? ⟨w.heap.size, 12, none⟩ = some (.string p.src) := hpb.cell 12
  have HPB := hide hpb
  clear hw0 HB0 HM0 m1 hpb
  go_wp2_with fail
  refine (first_any _ _).mono ?_
  rintro e w2 ⟨rfl, m2⟩
  unfold pval pcells pfirst
  go_wp2_with fail
  have hfb : Blk (w2.alloc (.cells (pcells (pfirst p.src)) 25)) w2.heap.size 25 (pcells (pfirst p.src)) := Blk.new _ _ _
  have hpb2 := (m2.blk HPB.out (by simp)).alloc (.cells (pcells (pfirst p.src)) 25)
  replace hm := (hm.trans m2 (by simp)).alloc (.cells (pcells (pfirst p.src)) 25)
  have hsz2 := m2.size
  obtain ⟨fb, hfbe⟩ : ∃ fb, w2.heap.size = fb := ⟨_, rfl⟩
  obtain ⟨w3, hw3⟩ : ∃ w3, w2.alloc (.cells (pcells (pfirst p.src)) 25) = w3 := ⟨_, rfl⟩
  have hs3 : w3.heap.size = fb + 1 := by rw [← hw3, ← hfbe]; simp
  rw [hfbe] at hfb hsz2 ⊢
  rw [hw3] at hfb hpb2 hm
  have hnc := numbers_any w3 fb
  unfold pcells pfirst at hw3
  simp only [Nat.reduceEqDiff, if_false, if_true] at hw3
  rw [← hw3] at hnc
  refine hnc.mono ?_
  rw [hw3]
  rintro e w4 ⟨fm, rfl, hfm, hfmap, m4⟩
  replace hm := hm.trans m4 (by simp)
  replace hfb := m4.blk hfb (by simp)
  replace hpb2 := m4.blk hpb2 (by simp)
  have hfml := hfmap.lt
  have hpfb : w.heap.size < fb := by omega
  clear HPB hw3 hnc m2 m4 c12 hfbe w2 hpl hsz2
  have c12 : w4.cell? ⟨w.heap.size, 12, none⟩ = some (.string p.src) := hpb2.cell 12
  have hpl := hpb2.lt
  obtain ⟨w6, hrun, hmap6, m6, hs6⟩ := (IMap.made w4 .u64).update (P := Try.prog) Try.underlying67 Try.underlying23 15 (.string p.src)
  go_wp2_with fail
  have m46 : Mod [] w4 w6 := ((Mod.refl [] w4).alloc _).trans m6 (by simp)
  replace hm := hm.trans m46 (by simp)
  replace hfb := m46.blk hfb (by simp)
  replace hpb2 := m46.blk hpb2 (by simp)
  replace hfmap := hfmap.mod m46 (by simp)
  obtain ⟨vm, hvm⟩ : ∃ vm, w4.heap.size = vm := ⟨_, rfl⟩
  rw [hvm] at hmap6 hfml m6 hrun
  have hvl := hmap6.lt
  rw [hvm]
  refine (numbers_any w6 w.heap.size).mono ?_
  rintro e w7 ⟨pm, rfl, hpm, hpmap, m7⟩
  replace hm := hm.trans m7 (by simp)
  replace hfb := m7.blk hfb (by simp)
  replace hpb2 := m7.blk hpb2 (by simp)
  replace hfmap := hfmap.mod m7 (by simp)
  replace hmap6 := hmap6.mod m7 (by simp)
  obtain ⟨w8, cnt, hrun8, hit, m8, hsz8⟩ := hpmap.range (P := Try.prog) (T := 65) Try.underlying65
  replace hm := hm.trans m8 (by simp)
  replace hfb := m8.blk hfb (by simp)
  replace hpb2 := m8.blk hpb2 (by simp)
  replace hfmap := hfmap.mod m8 (by simp)
  replace hmap6 := hmap6.mod m8 (by simp)
  have hpmlt := hpmap.lt
  obtain ⟨r, hr⟩ : ∃ r, w7.heap.size = r := ⟨_, rfl⟩
  rw [hr] at hrun8 hit hsz8 hpmlt
  have hs7 := m7.size
  rw [← pvalsL_start p w.heap.size] at hmap6
  clear m6 m7 m8 m46 hmk hpmap hr hs6
  have HFB := hide hfb
  have HPB := hide hpb2
  have HF := hide hfmap
  have HV := hide hmap6
  have HIT := hide hit
  clear hfb hpb2 hfmap hmap6 hit
  go_wp2_with fail
  clear hrun8 hrun c12 hvm
  go_loopw [] (fun wr => ∃ (left : Int → Bool) (c : Nat), IIter wr pm r .u64 (numMap w.heap.size) left c ∧ IMap wr vm .u64 (pvalsL p left) ∧ IMap wr fm .u64 (numMap fb) ∧ Blk wr w.heap.size 25 (pcells p) ∧ Blk wr fb 25 (pcells (pfirst p.src)) ∧ Mod [] w wr)
    (fun wr => wr.rangeLeft pm r)
  case atStart => exact ⟨_, _, HIT.out, HV.out, HF.out, HPB.out, HFB.out, hm⟩
  case round =>
    clear HIT HV HF HPB HFB hm
    obtain ⟨left, c, hit, hvm, hfm, hpb, hfb, hm⟩ := hrel
    have hrl := hit.lt
    rcases hit.next (P := Try.prog) 0 with ⟨hz, hl0, hnx⟩ | ⟨x, v, w9, cnt2, hlx, hfx, hnx, hit2, hlt, hm2, hs2, hen⟩
    · have c11 : wr.cell? ⟨w.heap.size, 11, none⟩ = some (.bool p.mig) := hpb.cell 11
      have hpl : w.heap.size < wr.heap.size := hpb.lt
      obtain ⟨w12, hrun, hmap12, m12, hs12⟩ := hvm.update (P := Try.prog) Try.underlying67 Try.underlying23 12 (.string ⟨#[]⟩)
      have H1 : Hid (p.mig = true → IMap w12 vm .u64 (pvals p)) := hide (fun h => by rw [← pvals_mig p left hl0 h]; exact hmap12)
      have H2 : Hid (p.mig = false → IMap wr vm .u64 (pvals p)) := hide (fun h => by rw [← pvals_not p left hl0 h]; exact hvm)
      have hm12 := hm.trans m12 (fun y hy => by simp at hy; right; omega)
      clear hit hpb hfb hvm hfm hl0 hz hmap12 m12
      go_upto_if 46 with fail
      go_cut [] (fun wx => IMap wx vm .u64 (pvals p) ∧ Mod [] w wx)
      case first =>
        obtain ⟨N, mig, src⟩ := p
        cases mig
        all_goals
          go_wp2_with fail
          go_meet
          first
          | exact ⟨H2.out (by trivial), by first | exact hm | trivial⟩
          | exact ⟨H1.out (by trivial), by first | exact hm12 | trivial⟩
      case rest =>
        obtain ⟨hvm, hm3⟩ := hcut
        clear hm hm12 hrun H1 H2 c11 hs12
        go_wp2_with fail
        have hks := callsIn_wide.1 (keys_u64 Fence.wide 5 trivial rfl (some vm) (wc.alloc (.cells #[.pointer none, .slice none 0 0] 73)))
        refine hks.mono ?_
        clear hks
        rintro e w13 ⟨rfl, rfl⟩
        have hbd := BldO.new wc wc.heap.size (Nat.le_refl _)
        have hvl2 := hvm.lt
        have hvmB : IMap ((wc.alloc (.cells #[.pointer none, .slice none 0 0] 73)).alloc (.cells #[.map (some vm)] 67)) vm .u64 (pvals p) := hvm.mod (((Mod.refl [] wc).alloc _).alloc _) (by simp)
        have hsd := sorted_u64 ((wc.alloc (.cells #[.pointer none, .slice none 0 0] 73)).alloc (.cells #[.map (some vm)] 67)) (wc.heap.size + 1) vm (pvals p) (by simp) (by
          have hk := Blk.new (wc.alloc (.cells #[.pointer none, .slice none 0 0] 73)) 67 #[.map (some vm)]
          simp only [World.size_alloc] at hk
          exact hk.cell 0) hvmB ((List.range 16).map Int.ofNat) (fun x hx => by
            unfold pvals at hx
            rw [Option.isSome_map] at hx
            obtain ⟨id, h1, rfl⟩ := pbytes_range hx
            exact List.mem_map.2 ⟨id, by simpa using h1, rfl⟩) (by simp)
        go_wp2_with fail
        refine hsd.mono ?_
        clear hsd
        rintro e w13 ⟨v, ss, rfl, hK, hsort, hrow, m13⟩
        have hss := pkeys_eq hK hsort
        subst hss
        obtain ⟨A, cap, rfl, hn1, hn2, _, hat⟩ := urow_form hrow
        have hlen := pkeys_len p
        have hkeys := fun x (hx : x ∈ pkeys p) => pkeys_at hx
        have hfin := pkeys_write p
        obtain ⟨ks, hks⟩ : ∃ ks, pkeys p = ks := ⟨_, rfl⟩
        clear hat
        rw [hks] at hkeys hlen hrow hfin hn1 ⊢
        obtain ⟨n, hn⟩ : ∃ n, ks.length = n := ⟨_, rfl⟩
        rw [hn] at hlen hrow hn1 ⊢
        have hbd : BldO w13 wc.heap.size wc.heap.size [] := BldO.fresh (m13.blk ((Blk.new wc _ _).alloc _) (by simp)) (Nat.le_refl _)
        have hv13 := hvmB.mod m13 (by simp)
        have hm13 : Mod [] w w13 := ((hm3.alloc _).alloc _).trans m13 (by simp)
        have hwc := hm3.size
        obtain ⟨bb, hbb⟩ : ∃ bb, wc.heap.size = bb := ⟨_, rfl⟩
        rw [hbb] at hbd hvl2 hwc ⊢
        have hbase : ((wc.alloc (.cells #[.pointer none, .slice none 0 0] 73)).alloc (.cells #[.map (some vm)] 67)).heap.size = bb + 2 := by simp [hbb]
        rw [hbase] at hrow
        have HKeys := hide hkeys
        have HFin := hide hfin
        have HN := hide hn
        have HBd := hide hbd
        have HV := hide hv13
        have HRow := hide hrow
        clear hkeys hfin hn hbd hv13 hrow hvmB m13 hks hK hsort hm3 hvm hbb hbase
        go_wp2_with fail
        go_loopw [52] (fun iv wr => ∃ j : Nat, j ≤ n ∧ iv = .int .i64 (j : Int) ∧ BldO wr bb bb ((ks.take j).flatMap fun x => ppart p x.toNat) ∧ IMap wr vm .u64 (pvals p) ∧ wr.ownsRow (bb + 2) 23 1 (.slice A n cap) n (ks.map U) ∧ Mod [] w wr) (fun iv _ => n - (intOf iv).toNat)
        case atStart => exact ⟨0, by omega, rfl, HBd.out, HV.out, HRow.out, hm13⟩
        case round =>
          clear HBd HV HRow hm13
          obtain ⟨j, hj, rfl, hbd, hvm, hrow, hm⟩ := hrel
          by_cases h : j < n
          · obtain ⟨A', cap', heq, _, _, hl, hat⟩ := urow_form hrow
            cases heq
            obtain ⟨g, rfl, hg1, hg2, hcell⟩ := hat j (by omega)
            have hjl : j < ks.length := by omega
            obtain ⟨id, v, hx, hid, hpb, hpp⟩ := HKeys.out _ (List.getElem_mem hjl)
            have htk : (ks.take (j + 1)).flatMap (fun x => ppart p x.toNat) = ((ks.take j).flatMap fun x => ppart p x.toNat) ++ pone id v := by
              rw [← List.take_append_getElem hjl, List.flatMap_append]
              simp [hx, hpp]
            have hvl3 := pbytes_le hpb
            have hlk := hvm.lookup (P := Try.prog) Try.underlying67 Try.underlying23 (Try.zeroValue9 _) id
            have hpv : pvals p id = some (str v) := by unfold pvals; rw [hpb]; rfl
            rw [hpv] at hlk
            rw [hx] at hcell
            obtain ⟨V, hV⟩ : ∃ V : ByteArray, V = ⟨v.toArray⟩ := ⟨_, rfl⟩
            have hsv : str v = .string V := by rw [hV]; rfl
            have hVv : V.data.toList = v := by rw [hV]
            have hVs : V.size = v.length := by rw [hV]; rfl
            rw [hsv] at hlk
            simp only [Option.getD_some] at hlk
            have h1 := pone_le id v
            have hl2 : ((ks.take j).flatMap fun x => ppart p x.toNat).length ≤ 65600 * 16 := by
              have e1 := flat_le (fun x : Int => ppart p x.toNat) 65600 (ks.take j) (fun x _ => by have := ppart_le p x.toNat; omega)
              rw [List.length_take] at e1
              have e2 : min j ks.length * 65600 ≤ 16 * 65600 := Nat.mul_le_mul_right _ (by omega)
              omega
            have HOne := hide (pone_any wr id V (by omega))
            obtain ⟨bs, hbs⟩ : ∃ bs, ((ks.take j).flatMap fun x => ppart p x.toNat) = bs := ⟨_, rfl⟩
            rw [hbs] at hbd htk hl2
            have HT := hide htk
            have HBd := hide hbd
            have HV := hide hvm
            have HR := hide hrow
            obtain ⟨S, hS⟩ : ∃ S : ByteArray, S = ⟨(pone id v).toArray⟩ := ⟨_, rfl⟩
            have hSs : S.size = (pone id v).length := by rw [hS]; rfl
            have hSe : str (pone id V.data.toList) = .string S := by rw [hVv, hS]; rfl
            have hSd : pone id v = S.data.toList := by rw [hS]
            rw [hSe] at HOne
            rw [hSd] at HT
            have hSl : S.size ≤ 65600 := by omega
            clear hbs hbd hvm hrow hat hx htk hV hsv hVv hVs hS hSs hSe hSd hpb hpp hpv hjl hvl3 h1
            go_wp2_with fail
            refine HOne.out.mono ?_
            rintro e w14 ⟨rfl, m14⟩
            have hbd14 := HBd.out.mod m14 (by simp)
            have hc := bwrite_any w14 bb bb bs S hbd14 (by omega) (by have := m14.size; have := HBd.out.lt; omega)
            have HC := hide hc
            clear hc
            go_wp2_with fail
            refine HC.out.mono ?_
            rintro e w15 ⟨rfl, hbd15, hst⟩
            have hr15 := hst.own (m14.own HR.out (by simp)) (by decide) hbd14.blk (by decide)
            have hv15 : IMap w15 vm .u64 (pvals p) := by
              obtain ⟨es, cl, hh, rr⟩ := HV.out.mod m14 (by simp)
              exact ⟨es, cl, hst.get hh (by omega), rr⟩
            have hm15 := hst.mod (hm.trans m14 (by simp)) (by omega)
            have HB15 := hide hbd15
            have HR15 := hide hr15
            have HV15 := hide hv15
            clear hbd14 hbd15 hr15 hv15 HC hst
            go_wp2_with fail
            go_roundw
            case rel => exact ⟨j + 1, by omega, by go_num, by rw [HT.out]; exact HB15.out, HV15.out, HR15.out, hm15⟩
            case measure => simp [intOf]; omega
          · have hjn : j = n := by omega
            subst hjn
            rw [List.take_of_length_le (by rw [HN.out]; exact Nat.le_refl _), HFin.out] at hbd
            have hc := bstring_any wr bb bb _ hbd (by have := hbd.lt; omega)
            have HC := hide hc
            clear hc hbd hvm hrow
            go_wp2_with fail
            refine HC.out.mono ?_
            rintro e w14 ⟨rfl, hst⟩
            have hm14 := hst.mod hm (by omega)
            clear HC hst
            go_wp2_with fail
            go_ret2
            exact WritePost.yes Hmy.out hm14 rfl
    · have hxs : ∃ t, pidx x = some t ∧ v = pptr w.heap.size t := by
        unfold numMap at hfx
        cases hp : pidx x with
        | none => rw [hp] at hfx; cases hfx
        | some t => rw [hp] at hfx; exact ⟨t, rfl, (Option.some.inj hfx).symm⟩
      obtain ⟨t, hpt, rfl⟩ := hxs
      obtain ⟨ht, rfl⟩ := pidx_some hpt
      have hne : ∀ b f, IMap wr b .u64 f → b ∉ [r] := fun b f hb => by
        have h1 := hit.ne
        obtain ⟨es, cl, hbk, _⟩ := hb
        obtain ⟨_, _, _, _, _, _, _, _, hbr, _⟩ := hit
        simp
        rintro rfl
        rw [hbr] at hbk; cases hbk
      have hrB : ∀ b cs, Blk wr b 25 cs → b ∉ [r] := fun b cs hb => by
        obtain ⟨_, _, _, _, _, _, _, _, hbr, _⟩ := hit
        simp
        rintro rfl
        unfold Blk at hb
        rw [hbr] at hb; cases hb
      have hvr := hne _ _ hvm
      replace hvm := hvm.mod hm2 hvr
      replace hfm := hfm.mod hm2 (hne _ _ hfm)
      replace hpb := hm2.blk hpb (hrB _ _ hpb)
      replace hfb := hm2.blk hfb (hrB _ _ hfb)
      replace hm := hm.trans hm2 (fun y hy => by simp at hy; right; omega)
      have c0 : w9.cell? ⟨w.heap.size, t, none⟩ = some (.int .u64 (p.N (nkey t) : Nat)) := (hpb.cell t).trans (pcells_at p t ht)
      have c1 : w9.cell? ⟨fb, t, none⟩ = some (.int .u64 ((pfirst p.src).N (nkey t) : Nat)) := (hfb.cell t).trans (pcells_at _ t ht)
      have hlk : ∀ nq, (Instr.lookup 65 (.map (some fm)) (.int .u64 (nkey t : Nat)) false).run Try.prog (w9.drewN nq) = .ok (.pointer (some ⟨fb, t, none⟩)) (w9.drewN nq) := fun nq => by
        have h1 := (hfm.mod ((Mod.refl [] w9).drewN nq) (by simp)).lookup (P := Try.prog) (T := 65) Try.underlying65 Try.underlying23 (ptrZero _) (nkey t : Nat)
        rw [h1]
        unfold numMap
        rw [pidx_key ht]; rfl
      have hpl : w.heap.size < w9.heap.size := hpb.lt
      have hfl : fb < w9.heap.size := hfb.lt
      have Hle := hide hit.left_eq
      have HIT2 := hide hit2
      have HV := hide hvm
      have HF := hide hfm
      have HPB := hide hpb
      have HFB := hide hfb
      have hskip := pvalsL_skip p left t ht
      have htake := pvalsL_take p left t ht
      have hfN : (pfirst ⟨#[]⟩).N (nkey t) = (pfirst p.src).N (nkey t) := rfl
      rw [hfN] at hskip htake
      obtain ⟨n, hn⟩ : ∃ n, p.N (nkey t) = n := ⟨_, rfl⟩
      obtain ⟨m, hmn⟩ : ∃ n, (pfirst p.src).N (nkey t) = n := ⟨_, rfl⟩
      rw [hn, hmn] at hskip htake
      rw [hn] at c0
      rw [hmn] at c1
      have HSkip := hide hskip
      have HTake := hide htake
      clear hit hpb hfb hvm hfm hit2 hfx hlx hpt hskip htake hfN hn hmn hne hrB hm2 hs2
      unfold pptr at hnx hen
      by_cases hnm : n = m
      · subst hnm
        have HS := hide (HSkip.out rfl)
        clear HSkip HTake
        go_wp2_with fail
        go_quiet (fail)
        go_wp2_with fail
        go_roundw
        case rel =>
          have hd := (Mod.refl [] w9).drewN nq
          exact ⟨_, cnt2, HIT2.out.mod hd (by simp) (by simp), by rw [HS.out]; exact HV.out.mod hd (by simp), HF.out.mod hd (by simp), hd.blk HPB.out (by simp), hd.blk HFB.out (by simp), hm.drewN _⟩
        case measure =>
          have hd := (Mod.refl [] w9).drewN nq
          rw [(HIT2.out.mod hd (by simp) (by simp)).left_eq, Hle.out]; exact hlt
      · have HT := hide (HTake.out hnm)
        have hb1 : ((n : Int) != (m : Int)) = true := by simp; omega
        have hb2 : (n != m) = true := by simpa using hnm
        obtain ⟨V, hV⟩ : ∃ V : ByteArray, str (vputS n) = .string V := ⟨_, rfl⟩
        have HVe := hide hV
        rw [hV] at HT
        have hput := fun w => pput_any w n
        rw [hV] at hput
        have HPut := hide hput
        clear HSkip HTake hnm hV hput
        go_wp2_with fail
        go_quiet (fail)
        have hd := (Mod.refl [] w9).drewN nq
        go_wp2_with fail
        refine (HPut.out _).mono ?_
        rintro e w10 ⟨rfl, m10⟩
        replace hd := hd.trans m10 (by simp)
        have hv10 := HV.out.mod hd (by simp)
        obtain ⟨w11, hrun, hmap11, m11, hs11⟩ := hv10.update (P := Try.prog) Try.underlying67 Try.underlying23 (nkey t : Nat) (.string V)
        go_wp2_with fail
        go_roundw
        case rel =>
          rw [HT.out] at hmap11
          have hfm2 : vm ≠ fm := by omega
          exact ⟨_, cnt2, (HIT2.out.mod hd (by simp) (by simp)).mod m11 (by simp; omega) (by simp; omega), hmap11, (HF.out.mod hd (by simp)).mod m11 (by simp; omega), m11.blk (hd.blk HPB.out (by simp)) (by simp; omega), m11.blk (hd.blk HFB.out (by simp)) (by simp; omega), (hm.trans hd (by simp)).trans m11 (fun y hy => by simp at hy; right; omega)⟩
        case measure => rw [((HIT2.out.mod hd (by simp) (by simp)).mod m11 (by simp; omega) (by simp; omega)).left_eq, Hle.out]; exact hlt
end Go.Proofs.Ytampdiplodhkbaa
