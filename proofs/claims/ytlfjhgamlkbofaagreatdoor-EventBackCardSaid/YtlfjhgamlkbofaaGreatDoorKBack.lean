/-
  The statement Back: what its walk needs beyond the shared contracts, its walk, and the walk brought to the given statement; no condition.
-/
import Derived.Test.YtlfjhgamlkbofaaGreatDoorPE6
import Derived.Test.YtlfjhgamlkbofaaGreatDoorRows
import Derived.Test.YtlfjhgamlkbofaaGreatDoorCards
import Derived.Test.YtlfjhgamlkbofaaGreatDoorTie
import Derived.Lay
import Derived.LaidOnce
import Derived.SevenTiedAt
import Derived.WalkKit
import Derived.ProofKit
import Derived.OpenShut
import Derived.ShutString
import Derived.ChangeOld
import Derived.Below
set_option linter.unusedVariables false
set_option linter.unusedSimpArgs false
set_option linter.unnecessarySimpa false
set_option maxRecDepth 100000
set_option maxHeartbeats 16000000
namespace Go.Proofs.YtlfjhgamlkbofaaGreatDoor
open Go.RowKit Js
theorem walkEventBack (W:World) (s:ByteArray) (B:Nat) (hB:B≤W.heap.size) (hj:JVars B W):Calls Tryz.prog 7 #[.string s] W (RPost W true):=by
 have HJ:=hide (fun w' (m:Mod [] W w')=>hj.mod m hB (by simp))
 have HZ:=hide (fun w' (m:Mod [] W w')=>Nat.le_trans hB m.size)
 have HM0:=hide (Mod.refl [] W)
 clear hj hB
 by_cases hl:4096 < s.size
 ·have f1:(4096:Int) < s.size:=by omega
  go_enter Tryz.func7,Tryz.ntmps7
  go_wp2_with fail
  refine(awake_any W B (HZ.out _ HM0.out) (HJ.out _ HM0.out)).mono ?_
  rintro e0 w1 ⟨rfl,m0⟩
  have HM1:=hide (HM0.out.trans m0 (by simp))
  clear m0
  go_wp2_with fail
  go_ret
  exact⟨rfl,HM1.out⟩
 ·have f1:¬(4096:Int) < s.size:=by omega
  have HL:Hid (s.size≤4096):=hide (by omega)
  go_enter Tryz.func7,Tryz.ntmps7
  go_wp2_with fail
  refine(awake_any W B (HZ.out _ HM0.out) (HJ.out _ HM0.out)).mono ?_
  rintro e0 w1 ⟨rfl,m0⟩
  have HM1:=hide (HM0.out.trans m0 (by simp))
  clear m0
  go_wp2_with fail
  clear f1 hl
  have HC:=hide (rtell_cases sreads s.data.toList)
  have hc:=rtell_cases ereads s.data.toList
  rcases hc with⟨p,hr,hal⟩ | ⟨k,hk,hr⟩
  ·have HRb:=hide hr
   have HBy:=hide (rtell_bytes hr)
   have HAl:=hide hal
   clear hr hal
   refine(rbin_ok (w:=w1) (by have:=HL.out;omega) HRb.out).mono ?_
   rintro e0 w2 ⟨A1,c1,l1,rfl,h0,e1,n1,m0⟩
   have HM2:=hide (HM1.out.trans m0 (by simp))
   have HE1:=hide (fun w' (m:Mod [] w2 w')=>h0.new m)
   have HQ1:=hide e1
   have HK1:=hide n1
   clear h0 e1 n1
   have HB:=hide (fun w' (m:Mod [] w2 w')=>bin_any w' A1 c1 l1 (HE1.out _ m) (by have:=HK1.out;have:=HL.out;omega))
   rw[told_is (D:=s) (mayE_of (by rw[HQ1.out];exact HAl.out)) (by rw[HQ1.out];exact HBy.out)]at HB
   clear m0
   go_wp2_with fail
   refine(HB.out _ (Mod.refl _ w2)).mono ?_
   rintro e0 w3 ⟨rfl,m0⟩
   have HM3:=hide (HM2.out.trans m0 (by simp))
   clear HAl HBy HRb HE1 HQ1 HK1 HB
   clear m0
   go_wp2_with fail
   rcases HC.out with⟨q,hr,hal⟩ | ⟨k,hk,hr⟩
   ·obtain⟨T,hTl⟩:∃T:ByteArray,T.data.toList=q.flatMap srec:=⟨⟨(q.flatMap srec).toArray⟩,by simp⟩
    have hts:=rtell_srec hr
    rw[←hTl,bytes_len,bytes_len]at hts
    have HTs:Hid (T.size≤1000000):=hide (by have:=HL.out;omega)
    have HRs:Hid (rtell sread T.data.toList=(q,0,0)):=hide (by rw[hTl];exact rtell_back sreads _ hal)
    have HAl:=hide hal
    have HTl:=hide hTl
    have HRr:=hide hr
    clear hts hTl hr hal
    refine(rseq_ok (w:=w3) (by have:=HL.out;omega) (HZ.out _ HM3.out) (HJ.out _ HM3.out) HRr.out).mono ?_
    rintro e0 w4 ⟨A3,c3,l3,rfl,h0,e1,n1,m0⟩
    have HM4:=hide (HM3.out.trans m0 (by simp))
    have HE3:=hide (fun w' (m:Mod [] w4 w')=>h0.new m)
    have HQ3:=hide e1
    have HK3:=hide n1
    clear h0 e1 n1
    have HS:=hide (fun w' (m:Mod [] w4 w')=>seq_any w' A3 c3 l3 (HE3.out _ m) (by have:=HK3.out;have:=HL.out;omega) B (Nat.le_trans (HZ.out _ HM4.out) m.size) (HJ.out _ (HM4.out.trans m (by simp))))
    rw[told_is (D:=T) (mayE_of (by rw[HQ3.out];exact HAl.out)) (by rw[HTl.out,HQ3.out])]at HS
    clear m0
    go_wp2_with fail
    refine(HS.out _ (Mod.refl _ w4)).mono ?_
    rintro e0 w5 ⟨rfl,m0⟩
    have HM5:=hide (HM4.out.trans m0 (by simp))
    have HO:=hide m0
    clear m0
    go_wp2_with fail
    refine(rseq_ok (w:=w5) HTs.out (HZ.out _ HM5.out) (HJ.out _ HM5.out) HRs.out).mono ?_
    rintro e0 w6 ⟨A4,c4,l4,rfl,h0,e1,n1,m0⟩
    have HM6:=hide (HM5.out.trans m0 (by simp))
    have HE4:=hide (fun w' (m:Mod [] w6 w')=>h0.new m)
    have HQ4:=hide e1
    have HK4:=hide n1
    clear h0 e1 n1
    have HE3':=hide (HE3.out _ (HO.out.trans m0 (by simp)))
    have HE4':=hide (HE4.out _ (Mod.refl _ w6))
    clear m0
    go_wp2_with fail
    refine(r7sameall_any w6 A3 A4 c3 c4 l3 l4 HE3'.out HE4'.out true (by simp[HQ3.out,HQ4.out])).mono ?_
    rintro e0 w7 ⟨rfl,m0⟩
    have HM7:=hide (HM6.out.trans m0 (by simp))
    clear m0
    go_wp2_with fail
    go_ret
    exact⟨rfl,HM7.out⟩
   ·have HRr:=hide hr
    have f4:(k:Int) < s.size:=by rw[←bytes_len];omega
    have f5:0≤(k:Int):=by omega
    have f6:k < s.size:=by omega
    clear hr hk
    refine(rseq_no (w:=w3) (by have:=HL.out;omega) (HZ.out _ HM3.out) (HJ.out _ HM3.out) HRr.out).mono ?_
    rintro e0 w4 ⟨A3,c3,rfl,m0⟩
    have HM4:=hide (HM3.out.trans m0 (by simp))
    clear m0
    go_wp2_with fail
    go_ret
    exact⟨rfl,HM4.out⟩
  ·have HRb:=hide hr
   have f1:¬(k:Int) < 0:=by omega
   have f2:¬(s.size:Int)≤k:=by rw[←bytes_len];omega
   have f3:¬s.size≤k:=by omega
   clear hr hk
   refine(rbin_no (w:=w1) (by have:=HL.out;omega) HRb.out).mono ?_
   rintro e0 w2 ⟨A1,c1,rfl,m0⟩
   have HM2:=hide (HM1.out.trans m0 (by simp))
   clear HRb
   clear m0
   go_wp2_with fail
   clear f1 f2 f3
   rcases HC.out with⟨q,hr,hal⟩ | ⟨k,hk,hr⟩
   ·obtain⟨T,hTl⟩:∃T:ByteArray,T.data.toList=q.flatMap srec:=⟨⟨(q.flatMap srec).toArray⟩,by simp⟩
    have hts:=rtell_srec hr
    rw[←hTl,bytes_len,bytes_len]at hts
    have HTs:Hid (T.size≤1000000):=hide (by have:=HL.out;omega)
    have HRs:Hid (rtell sread T.data.toList=(q,0,0)):=hide (by rw[hTl];exact rtell_back sreads _ hal)
    have HAl:=hide hal
    have HTl:=hide hTl
    have HRr:=hide hr
    clear hts hTl hr hal
    refine(rseq_ok (w:=w2) (by have:=HL.out;omega) (HZ.out _ HM2.out) (HJ.out _ HM2.out) HRr.out).mono ?_
    rintro e0 w3 ⟨A3,c3,l3,rfl,h0,e1,n1,m0⟩
    have HM3:=hide (HM2.out.trans m0 (by simp))
    have HE3:=hide (fun w' (m:Mod [] w3 w')=>h0.new m)
    have HQ3:=hide e1
    have HK3:=hide n1
    clear h0 e1 n1
    have HS:=hide (fun w' (m:Mod [] w3 w')=>seq_any w' A3 c3 l3 (HE3.out _ m) (by have:=HK3.out;have:=HL.out;omega) B (Nat.le_trans (HZ.out _ HM3.out) m.size) (HJ.out _ (HM3.out.trans m (by simp))))
    rw[told_is (D:=T) (mayE_of (by rw[HQ3.out];exact HAl.out)) (by rw[HTl.out,HQ3.out])]at HS
    clear m0
    go_wp2_with fail
    refine(HS.out _ (Mod.refl _ w3)).mono ?_
    rintro e0 w4 ⟨rfl,m0⟩
    have HM4:=hide (HM3.out.trans m0 (by simp))
    have HO:=hide m0
    clear m0
    go_wp2_with fail
    refine(rseq_ok (w:=w4) HTs.out (HZ.out _ HM4.out) (HJ.out _ HM4.out) HRs.out).mono ?_
    rintro e0 w5 ⟨A4,c4,l4,rfl,h0,e1,n1,m0⟩
    have HM5:=hide (HM4.out.trans m0 (by simp))
    have HE4:=hide (fun w' (m:Mod [] w5 w')=>h0.new m)
    have HQ4:=hide e1
    have HK4:=hide n1
    clear h0 e1 n1
    have HE3':=hide (HE3.out _ (HO.out.trans m0 (by simp)))
    have HE4':=hide (HE4.out _ (Mod.refl _ w5))
    clear m0
    go_wp2_with fail
    refine(r7sameall_any w5 A3 A4 c3 c4 l3 l4 HE3'.out HE4'.out true (by simp[HQ3.out,HQ4.out])).mono ?_
    rintro e0 w6 ⟨rfl,m0⟩
    have HM6:=hide (HM5.out.trans m0 (by simp))
    clear m0
    go_wp2_with fail
    go_ret
    exact⟨rfl,HM6.out⟩
   ·have HRr:=hide hr
    have f4:(k:Int) < s.size:=by rw[←bytes_len];omega
    have f5:0≤(k:Int):=by omega
    have f6:k < s.size:=by omega
    clear hr hk
    refine(rseq_no (w:=w2) (by have:=HL.out;omega) (HZ.out _ HM2.out) (HJ.out _ HM2.out) HRr.out).mono ?_
    rintro e0 w3 ⟨A3,c3,rfl,m0⟩
    have HM3:=hide (HM2.out.trans m0 (by simp))
    clear m0
    go_wp2_with fail
    go_ret
    exact⟨rfl,HM3.out⟩
end Go.Proofs.YtlfjhgamlkbofaaGreatDoor
namespace Go.Proofs.YtlfjhgamlkbofaaGreatDoor.lawEventBack
open Go.ChangeShapes Go.WideShapes Go.ChangeAt Go.RowKit
open Go.ChangeMaps (open_string shut_string)
theorem own:ownKnob Tryz.prog.godebug=none:=by kernel_rfl
theorem lifted (os:Os) (started:os.Started) (H:Type) (enc:TypeId×Value→H):
  ReturnsInHanded {} Tryz.checked os 7 .any (fun w args=>(Rows.eventBackSpec.pre enc Tryz.prog Tryz.f7 Rows.eventBackRow.domain false w args∧laidMetH Tryz.prog Rows.eventBackRow.laid w)∧sizedMet enc Tryz.prog Tryz.f7 (OpenSpec.ofChange Rows.eventBackSpec) false w args)
   (Rows.eventBackSpec.post enc Tryz.prog Tryz.f7 false true false false):=by
 refine returnsInHanded_of_change_and (C:=Tryz.checked) (X:=fun w _=>laidMetH Tryz.prog Rows.eventBackRow.laid w) (fun _ _ _ hh h=>h.of_heap hh) own started (by kernel_rfl) Tryz.func7
  (ChangeSpec.witness_shaped (enc:=enc) (C:=Tryz.checked) (os:=os) (X:=fun w _=>laidMetH Tryz.prog Rows.eventBackRow.laid w) false (World.laidAll Tryz.prog os Rows.eventBackRow.laid) #[.string ⟨#[]⟩] 8 (World.laidAll_os _ _ _)
   (World.shaped_of_ZipB (by kernel_rfl) (by kernel_rfl)) (by kernel_rfl) (by kernel_rfl) (by kernel_rfl)
   (by rw[MakeChecks.laidMetH_plain _ _ _ (by kernel_rfl)];exact laidMet_laidAll _ (by kernel_rfl) (by kernel_rfl))) ?_
 intro W base args ds gs before hval0 hW hcnd hsz0 hlaid _
 have hval:∀(j:Nat) t v,Tryz.f7.params[j]? =some t→args[j]? =some v→Value.okWide Tryz.prog W .any base t v:=hval0
 have hW':=hW
 obtain⟨p,q,hA0,hV,rfl,hfz,hnd⟩:=hW
 have hA:DataW.TrodAll enc Tryz.prog W 0 (fun _=>true) true Tryz.f7.params.toList args.toList ds p:=hA0
 rw[Tryz.params7]at hA hval
 obtain⟨v0,vs0,d0,ds0,p0,q0,hargs,rfl,rfl,h0,r0⟩:=trodAll_cons hA
 obtain⟨rfl,rfl,rfl⟩:=trodAll_nil r0
 obtain rfl:args= #[v0]:=by cases args;simp_all
 obtain⟨rfl,rfl⟩:=trodVars_none hV
 obtain⟨x0,rfl,rfl,rfl,ws0⟩:=open_string Tryz.underlying9 (hval 0 9 v0 rfl rfl) h0
 clear hA0 hval0
 refine(walkEventBack W x0 W.heap.size (Nat.le_refl _) (jvars_of_laid hlaid)).mono fun e W' ⟨he,bel0⟩=> ?_
 have bel:=bel0.below (Nat.le_refl _) (by simp)
 subst he
 exact⟨_,rfl,_,_,_,[],_,[],hW',trodAll_mk1 (shut_bool Tryz.underlying4 _),(trodAll_cons_mk (shut_string Tryz.underlying9 ws0) trodAll_mk0),rfl,bel.frame _,fun h=>by cases h⟩
theorem over:Rows.eventBackRow.holds Tryz.pinned (OpenSpec.ofChange Rows.eventBackSpec):=
 OpenClaim.holds_of_wide 7 Tryz.f7 rfl rfl rfl rfl rfl rfl rfl ⟨rfl,rfl,rfl,rfl,rfl⟩ rfl rfl rfl rfl rfl (by kernel_rfl) Tryz.func7 (by kernel_rfl)
  (of_decide_eq_true (by kernel_rfl)) (by unfold Func.isWrapper;first | (rw[if_pos (by decide+kernel)];kernel_rfl) | (rw[if_neg (by decide+kernel)];exact⟨rfl,rfl⟩))
  (fun os started H enc _=>lifted os started H enc)
theorem proved:Rows.EventBackCardSaid:=
 Claim7.holds_tied_plain_at .later [] [.data,.data,.data,.data,.sentinel,.sentinel,.pinned] true (true, "4c8695eb1ac032b4e716ff44961a2dcfc2aba7512ef385ed2dfdf8b9738e1b27") true over (fun _ h=>by cases h) (by kernel_rfl) (fun _ h=>by cases h) eventBack_row_tie rfl ⟨rfl,rfl⟩ (by kernel_rfl) rfl
  (fun f fn hf hfn=>by
   obtain rfl:f=7:=Option.some.inj ((show Tryz.prog.funcNamed "kymograph/kymographlaw07.EventBack" =some 7 by kernel_rfl).symm.trans hf) |>.symm
   obtain rfl:fn=Tryz.f7:=(Option.some.inj (Tryz.func7.symm.trans hfn)).symm
   exact⟨by kernel_rfl,fun j t ht=>by
    rw[Tryz.params7]at ht
    have hm:t∈ [9]:=by simpa using Array.mem_of_getElem? ht
    have hall:([9].all fun u=> !Tryz.prog.wantsStandIn u)=true:=by kernel_rfl
    exact(show Tryz.prog.wantsStandIn t=false by simpa using List.all_eq_true.1 hall t hm)⟩)
  (by kernel_rfl)
#print axioms proved
end Go.Proofs.YtlfjhgamlkbofaaGreatDoor.lawEventBack
