/-
  Contracts of the functions that the laws of this seat reach, and plain laws, part 9 of 13; no condition.
-/
import Derived.Test.YtlfjhgamlkbofaaGreatDoorPE1
import Derived.Test.YtlfjhgamlkbofaaGreatDoorPC
import Derived.Deep.Cut
set_option linter.unusedVariables false
set_option linter.unusedSimpArgs false
set_option linter.unnecessarySimpa false
set_option maxRecDepth 100000
set_option maxHeartbeats 16000000
namespace Go.Proofs.YtlfjhgamlkbofaaGreatDoor
open Go.RowKit
theorem ev_built (n0 n1 n2 n3 n4:Nat) (q:ByteArray):(Tryz.prog).built 38 [(0,.int .i64 (n0:Int)),(2,.int .u64 (n1:Int)),(1,.int .i64 (n2:Int)),(3,.int .u64 (n3:Int)),(4,.int .u64 (n4:Int)),(5,.string q)]=some (ecs none 0 0 ⟨n0,n2,n1,n3,n4,q,fr0⟩):=by kernel_rfl
theorem ecs_one (A:Option Addr) (n c:Nat) (e:Ev):(ecs A n c e).all (·.oneCell')=true:=by simp[ecs,Value.oneCell']
theorem ecs_put (k p:Int) (t n m:Nat) (x:ByteArray) (A:Option Addr) (j c:Nat) (y:Fr):setsAt (ecs none 0 0 ⟨k,p,t,n,m,x,fr0⟩) 6 (fcs A j c y).toList=ecs A j c ⟨k,p,t,n,m,x,y⟩:=by simp[ecs,fcs,setsAt,fr0]
def nrest:Nat→List UInt8→List UInt8
 | 0,s=>s
 | k+1,s=>(short (nrest k s)).rest
def nnum (k:Nat) (s:List UInt8):Nat:=(short (nrest k s)).n
def nok:Nat→List UInt8→Bool
 | 0,_=>true
 | k+1,s=>nok k s && (short (nrest k s)).ok
theorem nrest_le (s:List UInt8):∀k,(nrest k s).length≤s.length
 | 0=>Nat.le_refl _
 | k+1=>Nat.le_trans (short_rest_le _) (nrest_le s k)
def nat5 (j:Nat) (s:List UInt8):Array Value:= #[.int .u64 (if 0 < j then nnum 0 s else 0:Nat),.int .u64 (if 1 < j then nnum 1 s else 0:Nat),.int .u64 (if 2 < j then nnum 2 s else 0:Nat),.int .u64 (if 3 < j then nnum 3 s else 0:Nat),.int .u64 (if 4 < j then nnum 4 s else 0:Nat)]
def ebehind (s:List UInt8):Option Ev:=(ptext (nrest 5 s)).bind fun t=>(ptext t.2).bind fun f=>
 if f.2= []∧nnum 0 s≤15∧nnum 2 s≤1 then(eframeR f.1).bind fun x=>if emay ⟨nnum 0 s,nnum 2 s,nnum 1 s,nnum 3 s,nnum 4 s,Js.tob t.1,x⟩then some ⟨nnum 0 s,nnum 2 s,nnum 1 s,nnum 3 s,nnum 4 s,Js.tob t.1,x⟩else none
 else none
theorem eparse_eq (s:List UInt8):eparse s=if nok 5 s then ebehind s else none:=by
 unfold eparse pnum
 cases h0:(short s).ok with
 | false=>simp[nok,nrest,h0]
 | true=>
  simp only[if_true,Option.bind_some]
  cases h1:(short (short s).rest).ok with
  | false=>simp[nok,nrest,h0,h1]
  | true=>
   simp only[if_true,Option.bind_some]
   cases h2:(short (short (short s).rest).rest).ok with
   | false=>simp[nok,nrest,h0,h1,h2]
   | true=>
    simp only[if_true,Option.bind_some]
    cases h3:(short (short (short (short s).rest).rest).rest).ok with
    | false=>simp[nok,nrest,h0,h1,h2,h3]
    | true=>
     simp only[if_true,Option.bind_some]
     cases h4:(short (short (short (short (short s).rest).rest).rest).rest).ok with
     | false=>simp[nok,nrest,h0,h1,h2,h3,h4]
     | true=>
      simp only[if_true,Option.bind_some]
      rw[if_pos (by simp[nok,nrest,h0,h1,h2,h3,h4])]
      rfl
def EPost (w:World) (s:List UInt8) (r:Ending) (w':World):Prop:=∃(A:Option Addr) (c:Nat) (e:Ev),r=.returned (.tuple #[evval A e.f.list.length c e,.bool (eparse s).isSome])∧(∀e',eparse s=some e'→e=e')∧ROwn w' w.heap.size A c e.f.list∧e.f.list.length≤64∧Mod [] w w'
theorem EPost.no {w w':World} {s:List UInt8} (h:eparse s=none) (m:Mod [] w w'):EPost w s (.returned (.tuple #[.agg (ecs none 0 0 ev0),.bool false])) w':=
 ⟨none,0,ev0,by rw[h];rfl,(fun e' he=>by rw[h]at he;cases he),ROwn.nil _ _,by simp[ev0,fr0],m⟩
theorem ebytes_any (w:World) (x:ByteArray) (hx:x.size≤100000):Calls Tryz.prog 35 #[.string x] w (EPost w x.data.toList):=by
 obtain⟨s,hs⟩:∃s,x.data.toList=s:=⟨_,rfl⟩
 have hxs:(⟨s.toArray⟩:ByteArray)=x:=by rw[←hs]
 have hsl:s.length≤100000:=by rw[←hs,bytes_len];exact hx
 rw[←hxs]
 clear hs hxs hx
 have HR0:=hide ((Blk.new w 38 (ecs none 0 0 ev0)).alloc (.cells #[.int .u64 0,.int .u64 0,.int .u64 0,.int .u64 0,.int .u64 0] 89))
 have hb0:=Blk.new (w.alloc (.cells (ecs none 0 0 ev0) 38)) 89 (nat5 0 s)
 rw[World.size_alloc]at hb0
 have HB0:=hide hb0
 have HM0:=hide (((Mod.refl [] w).alloc (.cells (ecs none 0 0 ev0) 38)).alloc (.cells (nat5 0 s) 89))
 clear hb0
 go_enter Tryz.func35,Tryz.ntmps35
 go_wp2_with fail
 go_loopw [0,5,16] (fun q k i wr=>∃j:Nat,j≤5∧i=.int .i64 (j:Int)∧q=.string ⟨(nrest j s).toArray⟩∧k=.bool (nok j s)∧Blk wr (w.heap.size+1) 89 (nat5 j s)∧Blk wr w.heap.size 38 (ecs none 0 0 ev0)∧Mod [] w wr) (fun _ _ i _=>5 - (intOf i).toNat)
 case atStart=>exact⟨0,by omega,rfl,rfl,rfl,HB0.out,HR0.out,HM0.out⟩
 case round=>
  clear HB0 HR0 HM0
  obtain⟨j,hj,rfl,rfl,rfl,hb,hr,hm⟩:=hrel
  have HB:=hide hb
  have HR:=hide hr
  have HM:=hide hm
  clear hb hr hm
  have j5:j=0∨j=1∨j=2∨j=3∨j=4∨j=5:=by omega
  clear hj
  rcases j5 with rfl | rfl | rfl | rfl | rfl | rfl
  ·as_aux_lemma=>
   have hq:((nrest 0 s):List UInt8).length≤s.length:=nrest_le s 0
   have hnm:=enum_any wr ⟨(nrest 0 s).toArray⟩ (by show(nrest 0 s).length≤_;omega)
   have HNm:Hid (Calls Tryz.prog 69 #[.string ⟨(nrest 0 s).toArray⟩] wr fun r w''=>r=.returned (.tuple #[.int .u64 (nnum 0 s:Nat),.string ⟨(nrest (0+1) s).toArray⟩,.bool (short (nrest 0 s)).ok])∧Mod [] wr w''):=hide hnm
   clear hnm hq
   obtain⟨ok1,hok1⟩:∃ok1,(short (nrest 0 s)).ok=ok1:=⟨_,rfl⟩
   rw[hok1]at HNm
   obtain⟨ok0,hok0⟩:∃ok0,nok 0 s=ok0:=⟨_,rfl⟩
   have HOk:Hid (nok (0+1) s=(ok0 && ok1)):=hide (by rw[←hok0,←hok1];rfl)
   rw[hok0]
   clear hok0 hok1
   go_wp2_with fail
   refine HNm.out.mono ?_
   rintro e0 w2 ⟨rfl,m2⟩
   have hb2:=m2.blk HB.out (by simp)
   have hr2:=m2.blk HR.out (by simp)
   have HB2:Hid (Blk (w2.setCell ⟨w.heap.size+1,0,none⟩ (.int .u64 (nnum 0 s:Nat))) (w.heap.size+1) 89 (nat5 (0+1) s)):=hide (by
    have:=hb2.set_ 0 (.int .u64 (nnum 0 s:Nat))
    exact this)
   have HR2:=hide (hr2.far (p:=⟨w.heap.size+1,0,none⟩) (by simp) (.int .u64 (nnum 0 s:Nat)))
   have HM2:=hide ((HM.out.trans m2 (by simp)).setCell (p:=⟨w.heap.size+1,0,none⟩) (.inr (by simp)) (.int .u64 (nnum 0 s:Nat)))
   have hc2:w2.cell? ⟨w.heap.size+1,0,none⟩=some (.int .u64 0):=hb2.cell 0
   have hf2:w2.frozen? ⟨w.heap.size+1,0,none⟩=false:=hb2.frozen 0
   have hl2:=hb2.lt
   clear m2 hb2 hr2 HNm
   cases ok0 with
   | false=>
    go_wp2_with fail
    go_roundw
    case rel=>exact⟨0+1,by omega,by go_num,rfl,by rw[HOk.out];rfl,HB2.out,HR2.out,HM2.out⟩
    case measure=>simp[intOf]
   | true=>
    go_wp2_with fail
    go_roundw
    case rel=>exact⟨0+1,by omega,by go_num,rfl,by rw[HOk.out];rfl,HB2.out,HR2.out,HM2.out⟩
    case measure=>simp[intOf]
  ·as_aux_lemma=>
   have hq:((nrest 1 s):List UInt8).length≤s.length:=nrest_le s 1
   have hnm:=enum_any wr ⟨(nrest 1 s).toArray⟩ (by show(nrest 1 s).length≤_;omega)
   have HNm:Hid (Calls Tryz.prog 69 #[.string ⟨(nrest 1 s).toArray⟩] wr fun r w''=>r=.returned (.tuple #[.int .u64 (nnum 1 s:Nat),.string ⟨(nrest (1+1) s).toArray⟩,.bool (short (nrest 1 s)).ok])∧Mod [] wr w''):=hide hnm
   clear hnm hq
   obtain⟨ok1,hok1⟩:∃ok1,(short (nrest 1 s)).ok=ok1:=⟨_,rfl⟩
   rw[hok1]at HNm
   obtain⟨ok0,hok0⟩:∃ok0,nok 1 s=ok0:=⟨_,rfl⟩
   have HOk:Hid (nok (1+1) s=(ok0 && ok1)):=hide (by rw[←hok0,←hok1];rfl)
   rw[hok0]
   clear hok0 hok1
   go_wp2_with fail
   refine HNm.out.mono ?_
   rintro e0 w2 ⟨rfl,m2⟩
   have hb2:=m2.blk HB.out (by simp)
   have hr2:=m2.blk HR.out (by simp)
   have HB2:Hid (Blk (w2.setCell ⟨w.heap.size+1,1,none⟩ (.int .u64 (nnum 1 s:Nat))) (w.heap.size+1) 89 (nat5 (1+1) s)):=hide (by
    have:=hb2.set_ 1 (.int .u64 (nnum 1 s:Nat))
    exact this)
   have HR2:=hide (hr2.far (p:=⟨w.heap.size+1,1,none⟩) (by simp) (.int .u64 (nnum 1 s:Nat)))
   have HM2:=hide ((HM.out.trans m2 (by simp)).setCell (p:=⟨w.heap.size+1,1,none⟩) (.inr (by simp)) (.int .u64 (nnum 1 s:Nat)))
   have hc2:w2.cell? ⟨w.heap.size+1,1,none⟩=some (.int .u64 0):=hb2.cell 1
   have hf2:w2.frozen? ⟨w.heap.size+1,1,none⟩=false:=hb2.frozen 1
   have hl2:=hb2.lt
   clear m2 hb2 hr2 HNm
   cases ok0 with
   | false=>
    go_wp2_with fail
    go_roundw
    case rel=>exact⟨1+1,by omega,by go_num,rfl,by rw[HOk.out];rfl,HB2.out,HR2.out,HM2.out⟩
    case measure=>simp[intOf]
   | true=>
    go_wp2_with fail
    go_roundw
    case rel=>exact⟨1+1,by omega,by go_num,rfl,by rw[HOk.out];rfl,HB2.out,HR2.out,HM2.out⟩
    case measure=>simp[intOf]
  ·as_aux_lemma=>
   have hq:((nrest 2 s):List UInt8).length≤s.length:=nrest_le s 2
   have hnm:=enum_any wr ⟨(nrest 2 s).toArray⟩ (by show(nrest 2 s).length≤_;omega)
   have HNm:Hid (Calls Tryz.prog 69 #[.string ⟨(nrest 2 s).toArray⟩] wr fun r w''=>r=.returned (.tuple #[.int .u64 (nnum 2 s:Nat),.string ⟨(nrest (2+1) s).toArray⟩,.bool (short (nrest 2 s)).ok])∧Mod [] wr w''):=hide hnm
   clear hnm hq
   obtain⟨ok1,hok1⟩:∃ok1,(short (nrest 2 s)).ok=ok1:=⟨_,rfl⟩
   rw[hok1]at HNm
   obtain⟨ok0,hok0⟩:∃ok0,nok 2 s=ok0:=⟨_,rfl⟩
   have HOk:Hid (nok (2+1) s=(ok0 && ok1)):=hide (by rw[←hok0,←hok1];rfl)
   rw[hok0]
   clear hok0 hok1
   go_wp2_with fail
   refine HNm.out.mono ?_
   rintro e0 w2 ⟨rfl,m2⟩
   have hb2:=m2.blk HB.out (by simp)
   have hr2:=m2.blk HR.out (by simp)
   have HB2:Hid (Blk (w2.setCell ⟨w.heap.size+1,2,none⟩ (.int .u64 (nnum 2 s:Nat))) (w.heap.size+1) 89 (nat5 (2+1) s)):=hide (by
    have:=hb2.set_ 2 (.int .u64 (nnum 2 s:Nat))
    exact this)
   have HR2:=hide (hr2.far (p:=⟨w.heap.size+1,2,none⟩) (by simp) (.int .u64 (nnum 2 s:Nat)))
   have HM2:=hide ((HM.out.trans m2 (by simp)).setCell (p:=⟨w.heap.size+1,2,none⟩) (.inr (by simp)) (.int .u64 (nnum 2 s:Nat)))
   have hc2:w2.cell? ⟨w.heap.size+1,2,none⟩=some (.int .u64 0):=hb2.cell 2
   have hf2:w2.frozen? ⟨w.heap.size+1,2,none⟩=false:=hb2.frozen 2
   have hl2:=hb2.lt
   clear m2 hb2 hr2 HNm
   cases ok0 with
   | false=>
    go_wp2_with fail
    go_roundw
    case rel=>exact⟨2+1,by omega,by go_num,rfl,by rw[HOk.out];rfl,HB2.out,HR2.out,HM2.out⟩
    case measure=>simp[intOf]
   | true=>
    go_wp2_with fail
    go_roundw
    case rel=>exact⟨2+1,by omega,by go_num,rfl,by rw[HOk.out];rfl,HB2.out,HR2.out,HM2.out⟩
    case measure=>simp[intOf]
  ·as_aux_lemma=>
   have hq:((nrest 3 s):List UInt8).length≤s.length:=nrest_le s 3
   have hnm:=enum_any wr ⟨(nrest 3 s).toArray⟩ (by show(nrest 3 s).length≤_;omega)
   have HNm:Hid (Calls Tryz.prog 69 #[.string ⟨(nrest 3 s).toArray⟩] wr fun r w''=>r=.returned (.tuple #[.int .u64 (nnum 3 s:Nat),.string ⟨(nrest (3+1) s).toArray⟩,.bool (short (nrest 3 s)).ok])∧Mod [] wr w''):=hide hnm
   clear hnm hq
   obtain⟨ok1,hok1⟩:∃ok1,(short (nrest 3 s)).ok=ok1:=⟨_,rfl⟩
   rw[hok1]at HNm
   obtain⟨ok0,hok0⟩:∃ok0,nok 3 s=ok0:=⟨_,rfl⟩
   have HOk:Hid (nok (3+1) s=(ok0 && ok1)):=hide (by rw[←hok0,←hok1];rfl)
   rw[hok0]
   clear hok0 hok1
   go_wp2_with fail
   refine HNm.out.mono ?_
   rintro e0 w2 ⟨rfl,m2⟩
   have hb2:=m2.blk HB.out (by simp)
   have hr2:=m2.blk HR.out (by simp)
   have HB2:Hid (Blk (w2.setCell ⟨w.heap.size+1,3,none⟩ (.int .u64 (nnum 3 s:Nat))) (w.heap.size+1) 89 (nat5 (3+1) s)):=hide (by
    have:=hb2.set_ 3 (.int .u64 (nnum 3 s:Nat))
    exact this)
   have HR2:=hide (hr2.far (p:=⟨w.heap.size+1,3,none⟩) (by simp) (.int .u64 (nnum 3 s:Nat)))
   have HM2:=hide ((HM.out.trans m2 (by simp)).setCell (p:=⟨w.heap.size+1,3,none⟩) (.inr (by simp)) (.int .u64 (nnum 3 s:Nat)))
   have hc2:w2.cell? ⟨w.heap.size+1,3,none⟩=some (.int .u64 0):=hb2.cell 3
   have hf2:w2.frozen? ⟨w.heap.size+1,3,none⟩=false:=hb2.frozen 3
   have hl2:=hb2.lt
   clear m2 hb2 hr2 HNm
   cases ok0 with
   | false=>
    go_wp2_with fail
    go_roundw
    case rel=>exact⟨3+1,by omega,by go_num,rfl,by rw[HOk.out];rfl,HB2.out,HR2.out,HM2.out⟩
    case measure=>simp[intOf]
   | true=>
    go_wp2_with fail
    go_roundw
    case rel=>exact⟨3+1,by omega,by go_num,rfl,by rw[HOk.out];rfl,HB2.out,HR2.out,HM2.out⟩
    case measure=>simp[intOf]
  ·as_aux_lemma=>
   have hq:((nrest 4 s):List UInt8).length≤s.length:=nrest_le s 4
   have hnm:=enum_any wr ⟨(nrest 4 s).toArray⟩ (by show(nrest 4 s).length≤_;omega)
   have HNm:Hid (Calls Tryz.prog 69 #[.string ⟨(nrest 4 s).toArray⟩] wr fun r w''=>r=.returned (.tuple #[.int .u64 (nnum 4 s:Nat),.string ⟨(nrest (4+1) s).toArray⟩,.bool (short (nrest 4 s)).ok])∧Mod [] wr w''):=hide hnm
   clear hnm hq
   obtain⟨ok1,hok1⟩:∃ok1,(short (nrest 4 s)).ok=ok1:=⟨_,rfl⟩
   rw[hok1]at HNm
   obtain⟨ok0,hok0⟩:∃ok0,nok 4 s=ok0:=⟨_,rfl⟩
   have HOk:Hid (nok (4+1) s=(ok0 && ok1)):=hide (by rw[←hok0,←hok1];rfl)
   rw[hok0]
   clear hok0 hok1
   go_wp2_with fail
   refine HNm.out.mono ?_
   rintro e0 w2 ⟨rfl,m2⟩
   have hb2:=m2.blk HB.out (by simp)
   have hr2:=m2.blk HR.out (by simp)
   have HB2:Hid (Blk (w2.setCell ⟨w.heap.size+1,4,none⟩ (.int .u64 (nnum 4 s:Nat))) (w.heap.size+1) 89 (nat5 (4+1) s)):=hide (by
    have:=hb2.set_ 4 (.int .u64 (nnum 4 s:Nat))
    exact this)
   have HR2:=hide (hr2.far (p:=⟨w.heap.size+1,4,none⟩) (by simp) (.int .u64 (nnum 4 s:Nat)))
   have HM2:=hide ((HM.out.trans m2 (by simp)).setCell (p:=⟨w.heap.size+1,4,none⟩) (.inr (by simp)) (.int .u64 (nnum 4 s:Nat)))
   have hc2:w2.cell? ⟨w.heap.size+1,4,none⟩=some (.int .u64 0):=hb2.cell 4
   have hf2:w2.frozen? ⟨w.heap.size+1,4,none⟩=false:=hb2.frozen 4
   have hl2:=hb2.lt
   clear m2 hb2 hr2 HNm
   cases ok0 with
   | false=>
    go_wp2_with fail
    go_roundw
    case rel=>exact⟨4+1,by omega,by go_num,rfl,by rw[HOk.out];rfl,HB2.out,HR2.out,HM2.out⟩
    case measure=>simp[intOf]
   | true=>
    go_wp2_with fail
    go_roundw
    case rel=>exact⟨4+1,by omega,by go_num,rfl,by rw[HOk.out];rfl,HB2.out,HR2.out,HM2.out⟩
    case measure=>simp[intOf]
  ·as_aux_lemma=>
   have hs5:=nrest_le s 5
   obtain⟨S5,hS5⟩:∃S5,nrest 5 s=S5:=⟨_,rfl⟩
   rw[hS5]at hs5
   obtain⟨ok,hok⟩:∃ok,nok 5 s=ok:=⟨_,rfl⟩
   have htk:=etook_any wr ⟨S5.toArray⟩ (by show S5.length≤_;omega)
   have htk:Calls Tryz.prog 34 #[.string ⟨S5.toArray⟩] wr fun r w''=>r=.returned (tookV S5)∧Mod [] wr w'':=htk
   have HEq:Hid (eparse s=if ok then ebehind s else none):=hide (by rw[eparse_eq,hok])
   have HBh:Hid (ebehind s=(ptext S5).bind fun t=>(ptext t.2).bind fun f=>
    if f.2= []∧nnum 0 s≤15∧nnum 2 s≤1 then(eframeR f.1).bind fun x=>if emay ⟨nnum 0 s,nnum 2 s,nnum 1 s,nnum 3 s,nnum 4 s,Js.tob t.1,x⟩then some ⟨nnum 0 s,nnum 2 s,nnum 1 s,nnum 3 s,nnum 4 s,Js.tob t.1,x⟩else none
    else none):=hide (by unfold ebehind;rw[hS5])
   rw[hS5,hok]
   clear hS5 hok
   have HP0:Hid (ptext []=none):=hide (by decide+kernel)
   cases hp:ptext S5 with
   | none=>
    rw[tookV_no hp]at htk
    have HTk:=hide htk
    have HNo:Hid (eparse s=none):=hide (by rw[HEq.out,HBh.out,hp];cases ok <;> rfl)
    have htk2:=fun w'=>etook_any w' ⟨#[]⟩ (by decide)
    have HTk2:Hid (∀w',Calls Tryz.prog 34 #[.string ⟨#[]⟩] w' fun r w''=>r=.returned (.tuple #[str [],str [],.bool false])∧Mod [] w' w''):=hide (fun w'=>by
     have:=htk2 w'
     rw[show((⟨#[]⟩:ByteArray).data.toList)= []from rfl,tookV_no HP0.out]at this
     exact this)
    clear htk htk2 hp
    go_wp2_with fail
    refine HTk.out.mono ?_
    rintro e0 w2 ⟨rfl,m2⟩
    have HM2:=hide (HM.out.trans m2 (by simp))
    have HR2:=hide (m2.blk HR.out (by simp))
    clear m2
    go_wp2_with fail
    refine(HTk2.out _).mono ?_
    rintro e0 w3 ⟨rfl,m3⟩
    have HM3:=hide (HM2.out.trans m3 (by simp))
    have HR3:=hide (m3.blk HR2.out (by simp))
    clear m3
    cases ok with
    | false=>
     go_upto_region 13 with fail
     go_wp2_with (refine wpList_store_whole rfl 38 _ _ rfl rfl w.heap.size 38 (ecs none 0 0 ev0) (ecs none 0 0 ev0) HR3.out rfl rfl (by kernel_rfl) rfl (by kernel_rfl) ?_;intro w9 m9 b9 s9;have HM9:=hide m9;have HB9:=hide b9;clear m9 b9 s9)
     refine bodyPost_ret (results_cell_tmp_row rfl _ _ w.heap.size 38 (ecs none 0 0 ev0) _ rfl HB9.out Tryz.underlying38 rfl (by kernel_rfl)) rfl ?_
     exact EPost.no HNo.out (HM3.out.trans HM9.out (by simp))
    | true=>
     go_upto_region 13 with fail
     go_wp2_with (refine wpList_store_whole rfl 38 _ _ rfl rfl w.heap.size 38 (ecs none 0 0 ev0) (ecs none 0 0 ev0) HR3.out rfl rfl (by kernel_rfl) rfl (by kernel_rfl) ?_;intro w9 m9 b9 s9;have HM9:=hide m9;have HB9:=hide b9;clear m9 b9 s9)
     refine bodyPost_ret (results_cell_tmp_row rfl _ _ w.heap.size 38 (ecs none 0 0 ev0) _ rfl HB9.out Tryz.underlying38 rfl (by kernel_rfl)) rfl ?_
     exact EPost.no HNo.out (HM3.out.trans HM9.out (by simp))
   | some t6=>
    obtain⟨tx,S6⟩:=t6
    rw[tookV_yes hp]at htk
    have HTk:=hide htk
    obtain⟨h61,h62⟩:=ptext_some hp
    have hs6:tx.length+S6.length≤S5.length:=by rw[h61];simp only[List.length_append];omega
    have htk2:=fun w'=>etook_any w' ⟨S6.toArray⟩ (by show S6.length≤_;omega)
    have htk2:∀w',Calls Tryz.prog 34 #[.string ⟨S6.toArray⟩] w' fun r w''=>r=.returned (tookV S6)∧Mod [] w' w'':=htk2
    have HP:=hide hp
    clear htk hp h61 h62
    cases hp2:ptext S6 with
    | none=>
     have HNo:Hid (eparse s=none):=hide (by rw[HEq.out,HBh.out,HP.out];cases ok <;> simp[hp2])
     have HTk2:Hid (∀w',Calls Tryz.prog 34 #[.string ⟨S6.toArray⟩] w' fun r w''=>r=.returned (.tuple #[str [],str [],.bool false])∧Mod [] w' w''):=hide (fun w'=>by
      have:=htk2 w'
      rw[tookV_no hp2]at this
      exact this)
     clear htk2 hp2
     go_wp2_with fail
     refine HTk.out.mono ?_
     rintro e0 w2 ⟨rfl,m2⟩
     have HM2:=hide (HM.out.trans m2 (by simp))
     have HR2:=hide (m2.blk HR.out (by simp))
     clear m2
     go_wp2_with fail
     refine(HTk2.out _).mono ?_
     rintro e0 w3 ⟨rfl,m3⟩
     have HM3:=hide (HM2.out.trans m3 (by simp))
     have HR3:=hide (m3.blk HR2.out (by simp))
     clear m3
     cases ok with
     | false=>
      go_upto_region 13 with fail
      go_wp2_with (refine wpList_store_whole rfl 38 _ _ rfl rfl w.heap.size 38 (ecs none 0 0 ev0) (ecs none 0 0 ev0) HR3.out rfl rfl (by kernel_rfl) rfl (by kernel_rfl) ?_;intro w9 m9 b9 s9;have HM9:=hide m9;have HB9:=hide b9;clear m9 b9 s9)
      refine bodyPost_ret (results_cell_tmp_row rfl _ _ w.heap.size 38 (ecs none 0 0 ev0) _ rfl HB9.out Tryz.underlying38 rfl (by kernel_rfl)) rfl ?_
      exact EPost.no HNo.out (HM3.out.trans HM9.out (by simp))
     | true=>
      go_upto_region 13 with fail
      go_wp2_with (refine wpList_store_whole rfl 38 _ _ rfl rfl w.heap.size 38 (ecs none 0 0 ev0) (ecs none 0 0 ev0) HR3.out rfl rfl (by kernel_rfl) rfl (by kernel_rfl) ?_;intro w9 m9 b9 s9;have HM9:=hide m9;have HB9:=hide b9;clear m9 b9 s9)
      refine bodyPost_ret (results_cell_tmp_row rfl _ _ w.heap.size 38 (ecs none 0 0 ev0) _ rfl HB9.out Tryz.underlying38 rfl (by kernel_rfl)) rfl ?_
      exact EPost.no HNo.out (HM3.out.trans HM9.out (by simp))
    | some f7=>
     obtain⟨fx,S7⟩:=f7
     obtain⟨h71,_⟩:=ptext_some hp2
     have hs7:fx.length+S7.length≤S6.length:=by rw[h71];simp only[List.length_append];omega
     have HP2:=hide hp2
     have HTk2:Hid (∀w',Calls Tryz.prog 34 #[.string ⟨S6.toArray⟩] w' fun r w''=>r=.returned (.tuple #[str fx,str S7,.bool true])∧Mod [] w' w''):=hide (fun w'=>by
      have:=htk2 w'
      rw[tookV_yes hp2]at this
      exact this)
     clear htk2 hp2 h71
     obtain⟨n0,hn0⟩:∃n0,nnum 0 s=n0:=⟨_,rfl⟩
     obtain⟨n2,hn2⟩:∃n2,nnum 2 s=n2:=⟨_,rfl⟩
     have HPs:Hid (eparse s=if ok then(if S7= []∧n0≤15∧n2≤1 then(eframeR fx).bind fun x=>if emay ⟨n0,n2,nnum 1 s,nnum 3 s,nnum 4 s,Js.tob tx,x⟩then some ⟨n0,n2,nnum 1 s,nnum 3 s,nnum 4 s,Js.tob tx,x⟩else none else none)else none):=hide (by
      rw[HEq.out,HBh.out,HP.out]
      simp only[Option.bind_some]
      rw[HP2.out,←hn0,←hn2]
      rfl)
     have HN0:=hide hn0
     have HN2:=hide hn2
     obtain⟨q7,hq7⟩:∃q7:ByteArray,(⟨S7.toArray⟩:ByteArray)=q7:=⟨_,rfl⟩
     have hq7s:q7.size=S7.length:=by rw[←hq7];rfl
     obtain⟨qf,hqf⟩:∃qf:ByteArray,(⟨fx.toArray⟩:ByteArray)=qf:=⟨_,rfl⟩
     have hqfs:qf.size=fx.length:=by rw[←hqf];rfl
     have hqfd:qf.data.toList=fx:=by rw[←hqf]
     have HQfd:=hide hqfd
     have HQfs:=hide hqfs
     have HQ7s:=hide hq7s
     unfold str at HTk HTk2
     rw[hq7,hqf]at HTk2
     have hlq:qf.size≤1000000:=by omega
     clear hq7 hqf hqfd hqfs hq7s
     go_wp2_with fail
     refine HTk.out.mono ?_
     rintro e0 w2 ⟨rfl,m2⟩
     have HM2:=hide (HM.out.trans m2 (by simp))
     have HR2:=hide (m2.blk HR.out (by simp))
     have HB2:=hide (m2.blk HB.out (by simp))
     clear m2
     go_wp2_with fail
     refine(HTk2.out _).mono ?_
     rintro e0 w3 ⟨rfl,m3⟩
     have HM3:=hide (HM2.out.trans m3 (by simp))
     have HR3:=hide (m3.blk HR2.out (by simp))
     have hb3:=m3.blk HB2.out (by simp)
     have c0:w3.cell? ⟨w.heap.size+1,0,none⟩=some (.int .u64 (n0:Nat)):=by rw[←HN0.out];exact hb3.cell 0
     have c1:w3.cell? ⟨w.heap.size+1,1,none⟩=some (.int .u64 (nnum 1 s:Nat)):=hb3.cell 1
     have c2:w3.cell? ⟨w.heap.size+1,2,none⟩=some (.int .u64 (n2:Nat)):=by rw[←HN2.out];exact hb3.cell 2
     have c3:w3.cell? ⟨w.heap.size+1,3,none⟩=some (.int .u64 (nnum 3 s:Nat)):=hb3.cell 3
     have c4:w3.cell? ⟨w.heap.size+1,4,none⟩=some (.int .u64 (nnum 4 s:Nat)):=hb3.cell 4
     have hl3:=hb3.lt
     clear m3 hb3
     cases ok with
     | false=>
      have HNo:Hid (eparse s=none):=hide (by rw[HPs.out];rfl)
      go_upto_region 13 with fail
      go_wp2_with (refine wpList_store_whole rfl 38 _ _ rfl rfl w.heap.size 38 (ecs none 0 0 ev0) (ecs none 0 0 ev0) HR3.out rfl rfl (by kernel_rfl) rfl (by kernel_rfl) ?_;intro w9 m9 b9 s9;have HM9:=hide m9;have HB9:=hide b9;clear m9 b9 s9)
      refine bodyPost_ret (results_cell_tmp_row rfl _ _ w.heap.size 38 (ecs none 0 0 ev0) _ rfl HB9.out Tryz.underlying38 rfl (by kernel_rfl)) rfl ?_
      exact EPost.no HNo.out (HM3.out.trans HM9.out (by simp))
     | true=>
      by_cases h7:q7.size=0
      rotate_left
      ·have e7:=empty_false h7
       have HNo:Hid (eparse s=none):=hide (by
        rw[HPs.out,if_pos rfl,if_neg (fun hc=>h7 (by rw[HQ7s.out,hc.1];rfl))])
       clear h7
       go_upto_region 13 with fail
       go_wp2_with (refine wpList_store_whole rfl 38 _ _ rfl rfl w.heap.size 38 (ecs none 0 0 ev0) (ecs none 0 0 ev0) HR3.out rfl rfl (by kernel_rfl) rfl (by kernel_rfl) ?_;intro w9 m9 b9 s9;have HM9:=hide m9;have HB9:=hide b9;clear m9 b9 s9)
       refine bodyPost_ret (results_cell_tmp_row rfl _ _ w.heap.size 38 (ecs none 0 0 ev0) _ rfl HB9.out Tryz.underlying38 rfl (by kernel_rfl)) rfl ?_
       exact EPost.no HNo.out (HM3.out.trans HM9.out (by simp))
      have e7:=empty_true h7
      by_cases h0:15 < n0
      ·have HNo:Hid (eparse s=none):=hide (by rw[HPs.out,if_pos rfl,if_neg (fun hc=>by omega)])
       clear h7
       go_upto_region 13 with fail
       go_wp2_with (refine wpList_store_whole rfl 38 _ _ rfl rfl w.heap.size 38 (ecs none 0 0 ev0) (ecs none 0 0 ev0) HR3.out rfl rfl (by kernel_rfl) rfl (by kernel_rfl) ?_;intro w9 m9 b9 s9;have HM9:=hide m9;have HB9:=hide b9;clear m9 b9 s9)
       refine bodyPost_ret (results_cell_tmp_row rfl _ _ w.heap.size 38 (ecs none 0 0 ev0) _ rfl HB9.out Tryz.underlying38 rfl (by kernel_rfl)) rfl ?_
       exact EPost.no HNo.out (HM3.out.trans HM9.out (by simp))
      by_cases h2:1 < n2
      ·have HNo:Hid (eparse s=none):=hide (by rw[HPs.out,if_pos rfl,if_neg (fun hc=>by omega)])
       clear h7
       go_upto_region 13 with fail
       go_wp2_with (refine wpList_store_whole rfl 38 _ _ rfl rfl w.heap.size 38 (ecs none 0 0 ev0) (ecs none 0 0 ev0) HR3.out rfl rfl (by kernel_rfl) rfl (by kernel_rfl) ?_;intro w9 m9 b9 s9;have HM9:=hide m9;have HB9:=hide b9;clear m9 b9 s9)
       refine bodyPost_ret (results_cell_tmp_row rfl _ _ w.heap.size 38 (ecs none 0 0 ev0) _ rfl HB9.out Tryz.underlying38 rfl (by kernel_rfl)) rfl ?_
       exact EPost.no HNo.out (HM3.out.trans HM9.out (by simp))
      have HPs2:Hid (eparse s=(eframeR fx).bind fun x=>if emay ⟨n0,n2,nnum 1 s,nnum 3 s,nnum 4 s,Js.tob tx,x⟩then some ⟨n0,n2,nnum 1 s,nnum 3 s,nnum 4 s,Js.tob tx,x⟩else none):=hide (by
       rw[HPs.out,if_pos rfl,if_pos ⟨List.eq_nil_of_length_eq_zero (by rw[←HQ7s.out];exact h7),by omega,by omega⟩])
      have w0:IntKind.i64.wrap (n0:Int)=(n0:Int):=IntWalk.i64_in _ (by omega)
      have w2':IntKind.i64.wrap (n2:Int)=(n2:Int):=IntWalk.i64_in _ (by omega)
      have i0:¬((n0:Int) > 15):=by omega
      have i2:¬((n2:Int) > 1):=by omega
      clear h7 HPs HEq HBh
      have hbd:=ev_built n0 (nnum 1 s) n2 (nnum 3 s) (nnum 4 s) ⟨tx.toArray⟩
      obtain⟨cs,hcs⟩:∃cs,ecs none 0 0 ⟨n0,n2,nnum 1 s,nnum 3 s,nnum 4 s,⟨tx.toArray⟩,fr0⟩=cs:=⟨_,rfl⟩
      rw[hcs]at hbd
      have HBd:=hide hbd
      have HCz:Hid (cs.size=14):=hide (by rw[←hcs];rfl)
      have HC1:Hid (cs.all (·.oneCell')=true):=hide (by rw[←hcs];exact ecs_one _ _ _ _)
      have HCs:=hide hcs
      clear hbd hcs
      go_upto_region 14 with fail
      go_upto_region 15 with(first | (refine wpList_built rfl 38 _ rfl _ rfl [(0,.int .i64 (n0:Int)),(2,.int .u64 (nnum 1 s:Nat)),(1,.int .i64 (n2:Int)),(3,.int .u64 (nnum 3 s:Nat)),(4,.int .u64 (nnum 4 s:Nat)),(5,.string ⟨tx.toArray⟩)] rfl cs HBd.out ?_) | (refine wpList_store_open rfl 38 _ _ rfl rfl _ cs rfl rfl (by rw[HCz.out];kernel_rfl) (by rw[HCz.out];rfl) HC1.out ?_;intro w4 m4 b4 s4;have HM4:=hide (HM3.out.trans m4 (by simp));have HR4:=hide (m4.blk HR3.out (by simp));have HE4:=hide b4;clear m4 b4 s4))
      have HGl:=hide HE4.out.lt
      have HGn:Hid (w3.heap.size≠w.heap.size):=hide (by have:=HR3.out.lt;omega)
      have HGw:Hid (w.heap.size≤w3.heap.size):=hide HM3.out.size
      obtain⟨ge,hge⟩:∃ge,w3.heap.size=ge:=⟨_,rfl⟩
      rw[hge]at HE4 HGl HGn HGw ⊢
      clear hge hl3
      by_cases hf0:qf.size=0
      ·have ef:=empty_true hf0
       have hfx:fx= []:=List.eq_nil_of_length_eq_zero (by rw[←HQfs.out];exact hf0)
       have HPa:Hid (eparse s=if emay ⟨n0,n2,nnum 1 s,nnum 3 s,nnum 4 s,⟨tx.toArray⟩,fr0⟩then some ⟨n0,n2,nnum 1 s,nnum 3 s,nnum 4 s,⟨tx.toArray⟩,fr0⟩else none):=hide (by rw[HPs2.out,hfx,show eframeR []=some fr0 from if_pos rfl,Option.bind_some];rfl)
       have HRg:Hid (Rngs w4 none 0 fr0.list):=hide (Rngs.nil w4)
       clear hfx hf0
       go_upto_region 20 with fail
       obtain⟨v,hv⟩:∃v,emay ⟨n0,n2,nnum 1 s,nnum 3 s,nnum 4 s,⟨tx.toArray⟩,fr0⟩=v:=⟨_,rfl⟩
       have HV:=hide hv
       have hct:=fun wq (m:Mod [] w4 wq)=>emay_any wq none 0 0 ⟨n0,n2,nnum 1 s,nnum 3 s,nnum 4 s,⟨tx.toArray⟩,fr0⟩ (HRg.out.new m) v hv
       unfold evval at hct
       rw[HCs.out]at hct
       have HCt:=hide hct
       clear hct hv
       refine wp_region_plan (Mod [w.heap.size] w4) [] [([0,1],2),([],3)] [4] (by kernel_rfl) (by kernel_rfl) (fun _ _ _ _ _ h=>h) (Mod.refl _ w4).drew ?_
       show wpQuiet _ _ _ _ _ _
       simp only[List.map_cons,List.map_nil,List.getD_cons_zero,List.getD_cons_succ]
       refine wpQuiet_row rfl 38 _ rfl ge 0 rfl cs.toList _ (cls_row HE4.out (Mod.refl _ w4) HGl.out (by simpa using HGn.out)) rfl rfl (by rw[Array.length_toList,HCz.out];kernel_rfl) ?_
       refine wpQuiet_row rfl 38 _ rfl ge 0 rfl cs.toList _ (cls_row HE4.out (Mod.refl _ w4) HGl.out (by simpa using HGn.out)) rfl rfl (by rw[Array.length_toList,HCz.out];kernel_rfl) ?_
       refine wpQuiet_nil ?_
       go_wp2_with fail
       refine(HCt.out _ (Mod.refl [] w4).drew).mono ?_
       rintro e0 w8 ⟨rfl,m8⟩
       have hm8:Mod [] w4 w8:=(Mod.refl [] w4).drew.trans m8 (by simp)
       have HM8:=hide (HM4.out.trans hm8 (by simp))
       have HR8:=hide (hm8.blk HR4.out (by simp))
       have HO8:Hid (ROwn w8 w.heap.size none 0 ((⟨n0,n2,nnum 1 s,nnum 3 s,nnum 4 s,⟨tx.toArray⟩,fr0⟩:Ev).f.list)):=hide (ROwn.nil _ _)
       clear m8
       go_wp2_with fail
       refine Ph.on (fun _=>hm8.mono (by simp)) ?_
       have HM8c:=hide hm8
       clear hm8
       show wpQuiet _ _ _ _ _ _
       simp only[List.map_cons,List.map_nil,List.getD_cons_zero,List.getD_cons_succ]
       refine wpQuiet_nil ?_
       go_wp2_with (refine wpList_store_whole rfl 38 _ _ rfl rfl w.heap.size 38 (ecs none 0 0 ev0) cs HR8.out rfl rfl (by rw[HCz.out];kernel_rfl) (by rw[HCz.out];rfl) HC1.out ?_;intro w9 m9 b9 s9;have HM9:=hide (HM8.out.trans m9 (by simp));have HM9c:Hid (Mod [w.heap.size] w4 w9):=hide ((HM8c.out.mono (by simp)).trans m9 (fun x hx=> .inl hx));have HB9:=hide b9;have HO9:Hid (ROwn w9 w.heap.size none 0 ((⟨n0,n2,nnum 1 s,nnum 3 s,nnum 4 s,⟨tx.toArray⟩,fr0⟩:Ev).f.list)):=hide (HO8.out.mod m9 (by intro g o h;have:=HO8.out.ne HR8.out (by decide) g o h;simpa using this));clear m9 b9 s9)
       refine Ph.on (fun _=>HM9c.out) ?_
       show wpQuiet _ _ _ _ _ _
       simp only[List.map_cons,List.map_nil,List.getD_cons_zero,List.getD_cons_succ]
       repeat (go_big_quiet_step (fail))
       refine wpQuiet_nil ?_
       go_wp2_with fail
       refine bodyPost_ret (results_cell_tmp_row rfl _ _ w.heap.size 38 cs _ rfl HB9.out Tryz.underlying38 rfl (by rw[HCz.out];kernel_rfl)) rfl ?_
       have hpa:=HPa.out
       rw[HV.out]at hpa
       refine⟨none,0,⟨n0,n2,nnum 1 s,nnum 3 s,nnum 4 s,⟨tx.toArray⟩,fr0⟩,?_,fun e' he=> ?_,HO9.out,by simp[fr0],HM9.out⟩
       ·rw[hpa,←HCs.out]
        cases v <;> rfl
       ·rw[hpa]at he
        cases v with
        | false=>cases he
        | true=>exact Option.some.inj he
      ·have ef:=empty_false hf0
       have hfx:fx≠ []:=fun h=>hf0 (by rw[HQfs.out,h];rfl)
       have HFe:Hid (eframeR fx=match fread fx with | some y=>if y.2= []then some y.1 else none | none=>none):=hide (by unfold eframeR;rw[if_neg hfx];rfl)
       have hrd:=read_any w4 qf hlq
       rw[HQfd.out]at hrd
       have hff:frd fx=match fread fx with | some x=>(x.1,x.2,0) | none=>(fr0,[],2):=by unfold frd;rw[if_neg hfx];rfl
       rw[hff]at hrd
       clear hff hfx hf0
       go_upto_region 16 with fail
       cases hfr:fread fx with
       | none=>
        rw[hfr]at hrd
        have HNo:Hid (eparse s=none):=hide (by rw[HPs2.out,HFe.out,hfr];exact Option.bind_none _)
        have HRd:=hide hrd
        clear hrd hfr
        go_wp2_with fail
        refine HRd.out.mono ?_
        rintro e0 w5 ⟨A1,c1,rfl,o5,l5,m5⟩
        have HM5:=hide (HM4.out.trans m5 (by simp))
        have HR5:=hide (m5.blk HR4.out (by simp))
        clear o5 l5 m5
        dsimp only
        obtain⟨fc,hfc⟩:∃fc,fcs A1 (fr0.list.length) c1 fr0=fc:=⟨_,rfl⟩
        have HFz:Hid (fc.size=8):=hide (by rw[←hfc];rfl)
        have HF1:Hid (fc.all (·.oneCell')=true):=hide (by rw[←hfc];simp[fcs,Value.oneCell'])
        unfold fval str
        rw[hfc]
        clear hfc
        go_upto_region 17 with(refine wpList_store_open rfl 36 _ _ rfl rfl _ fc rfl rfl (by rw[HFz.out];kernel_rfl) (by rw[HFz.out];rfl) HF1.out ?_;intro w6 m6 b6 s6;have HM6:=hide (HM5.out.trans m6 (by simp));have HR6:=hide (m6.blk HR5.out (by simp));clear m6 b6 s6)
        go_upto_region 18 with fail
        go_wp2_with (refine wpList_store_whole rfl 38 _ _ rfl rfl w.heap.size 38 (ecs none 0 0 ev0) (ecs none 0 0 ev0) HR6.out rfl rfl (by kernel_rfl) rfl (by kernel_rfl) ?_;intro w9 m9 b9 s9;have HM9:=hide m9;have HB9:=hide b9;clear m9 b9 s9)
        refine bodyPost_ret (results_cell_tmp_row rfl _ _ w.heap.size 38 (ecs none 0 0 ev0) _ rfl HB9.out Tryz.underlying38 rfl (by kernel_rfl)) rfl ?_
        exact EPost.no HNo.out (HM6.out.trans HM9.out (by simp))
       | some yr=>
        obtain⟨y,r⟩:=yr
        rw[hfr]at hrd
        have HFe2:Hid (eframeR fx=if r= []then some y else none):=hide (by rw[HFe.out,hfr])
        have HRd:=hide hrd
        obtain⟨q8,hq8⟩:∃q8:ByteArray,(⟨r.toArray⟩:ByteArray)=q8:=⟨_,rfl⟩
        have hq8s:q8.size=r.length:=by rw[←hq8];rfl
        clear hrd hfr HFe
        go_wp2_with fail
        refine HRd.out.mono ?_
        rintro e0 w5 ⟨A1,c1,rfl,o5,l5,m5⟩
        have HM5:=hide (HM4.out.trans m5 (by simp))
        have HR5:=hide (m5.blk HR4.out (by simp))
        have HE5:=hide (m5.blk HE4.out (by simp))
        have HO5:=hide (o5.base (Nat.le_trans HM4.out.size (Nat.le_refl _)))
        have HL5:=hide l5
        clear o5 l5 m5
        dsimp only at HO5 HL5 ⊢
        obtain⟨fc,hfc⟩:∃fc,fcs A1 (y.list.length) c1 y=fc:=⟨_,rfl⟩
        have HFz:Hid (fc.size=8):=hide (by rw[←hfc];rfl)
        have HF1:Hid (fc.all (·.oneCell')=true):=hide (by rw[←hfc];simp[fcs,Value.oneCell'])
        have HFc:=hide hfc
        unfold fval str
        rw[hfc,hq8]
        clear hfc hq8
        go_upto_region 17 with(refine wpList_store_open rfl 36 _ _ rfl rfl _ fc rfl rfl (by rw[HFz.out];kernel_rfl) (by rw[HFz.out];rfl) HF1.out ?_;intro w6 m6 b6 s6;have HM6:=hide (HM5.out.trans m6 (by simp));have HR6:=hide (m6.blk HR5.out (by simp));have HE6:=hide (m6.blk HE5.out (by simp));have HO6:=hide (HO5.out.mod m6 (by simp));have HB6:=hide b6;have HXl:=hide b6.range;clear m6 b6 s6)
        by_cases hr0:q8.size=0
        rotate_left
        ·have er:=empty_false hr0
         have HNo:Hid (eparse s=none):=hide (by rw[HPs2.out,HFe2.out,if_neg (fun h=>hr0 (by rw[hq8s,h];rfl))];exact Option.bind_none _)
         clear hr0
         go_upto_region 18 with fail
         go_wp2_with (refine wpList_store_whole rfl 38 _ _ rfl rfl w.heap.size 38 (ecs none 0 0 ev0) (ecs none 0 0 ev0) HR6.out rfl rfl (by kernel_rfl) rfl (by kernel_rfl) ?_;intro w9 m9 b9 s9;have HM9:=hide m9;have HB9:=hide b9;clear m9 b9 s9)
         refine bodyPost_ret (results_cell_tmp_row rfl _ _ w.heap.size 38 (ecs none 0 0 ev0) _ rfl HB9.out Tryz.underlying38 rfl (by kernel_rfl)) rfl ?_
         exact EPost.no HNo.out (HM6.out.trans HM9.out (by simp))
        have er:=empty_true hr0
        have hr1:r= []:=List.eq_nil_of_length_eq_zero (by rw[←hq8s];exact hr0)
        have HPa:Hid (eparse s=if emay ⟨n0,n2,nnum 1 s,nnum 3 s,nnum 4 s,⟨tx.toArray⟩,y⟩then some ⟨n0,n2,nnum 1 s,nnum 3 s,nnum 4 s,⟨tx.toArray⟩,y⟩else none):=hide (by rw[HPs2.out,HFe2.out,if_pos hr1,Option.bind_some];rfl)
        clear hr0 hr1 hq8s HFe2
        obtain⟨cs2,hcs2⟩:∃cs2,ecs A1 (y.list.length) c1 ⟨n0,n2,nnum 1 s,nnum 3 s,nnum 4 s,⟨tx.toArray⟩,y⟩=cs2:=⟨_,rfl⟩
        have HPt:Hid (setsAt cs 6 fc.toList=cs2):=hide (by rw[←HCs.out,←HFc.out,←hcs2];exact ecs_put _ _ _ _ _ _ _ _ _ _)
        have HFt:Hid (6+fc.size≤cs.size):=hide (by rw[HFz.out,HCz.out];omega)
        go_upto_region 19 with fail
        go_upto_region 20 with(first | (refine wpList_load_mid rfl 36 _ rfl w5.heap.size 0 rfl fc.toList _ HXl.out rfl rfl (by rw[Array.length_toList,HFz.out];kernel_rfl) ?_) | (refine wpList_store_part rfl 36 _ _ rfl rfl ge 6 38 cs cs2 fc HE6.out rfl rfl (by rw[HFz.out];kernel_rfl) HFt.out HPt.out HF1.out ?_;intro w7 m7 b7 s7;have HM7:=hide (HM6.out.trans m7 (by intro x hx;right;simp at hx;subst hx;have:=HGn.out;have:=HGw.out;omega));have HR7:=hide (m7.blk HR6.out (by simp;exact Ne.symm HGn.out));have HE7:=hide b7;have HO7:=hide (HO6.out.mod m7 (by intro g o h;have:=HO6.out.ne HE6.out (by decide) g o h;simpa using this));clear m7 b7 s7))
        have HRg:=hide (HO7.out.rngs (by have:=HL5.out;omega))
        clear HCs HCz HC1
        have HCs:=hide hcs2
        have HCz:Hid (cs2.size=14):=hide (by rw[←hcs2];rfl)
        have HC1:Hid (cs2.all (·.oneCell')=true):=hide (by rw[←hcs2];exact ecs_one _ _ _ _)
        clear hcs2 HGl
        have HGl:=hide HE7.out.lt
        obtain⟨cs,hcs⟩:∃cs,cs2=cs:=⟨_,rfl⟩
        rw[hcs]at HCs HCz HC1 HE7
        clear hcs
        obtain⟨v,hv⟩:∃v,emay ⟨n0,n2,nnum 1 s,nnum 3 s,nnum 4 s,⟨tx.toArray⟩,y⟩=v:=⟨_,rfl⟩
        have HV:=hide hv
        have hct:=fun wq (m:Mod [] w7 wq)=>emay_any wq A1 y.list.length c1 ⟨n0,n2,nnum 1 s,nnum 3 s,nnum 4 s,⟨tx.toArray⟩,y⟩ (HRg.out.new m) v hv
        unfold evval at hct
        rw[HCs.out]at hct
        have HCt:=hide hct
        clear hct hv
        refine wp_region_plan (Mod [w.heap.size] w7) [] [([0,1],2),([],3)] [4] (by kernel_rfl) (by kernel_rfl) (fun _ _ _ _ _ h=>h) (Mod.refl _ w7).drew ?_
        show wpQuiet _ _ _ _ _ _
        simp only[List.map_cons,List.map_nil,List.getD_cons_zero,List.getD_cons_succ]
        refine wpQuiet_row rfl 38 _ rfl ge 0 rfl cs.toList _ (cls_row HE7.out (Mod.refl _ w7) HGl.out (by simpa using HGn.out)) rfl rfl (by rw[Array.length_toList,HCz.out];kernel_rfl) ?_
        refine wpQuiet_row rfl 38 _ rfl ge 0 rfl cs.toList _ (cls_row HE7.out (Mod.refl _ w7) HGl.out (by simpa using HGn.out)) rfl rfl (by rw[Array.length_toList,HCz.out];kernel_rfl) ?_
        refine wpQuiet_nil ?_
        go_wp2_with fail
        refine(HCt.out _ (Mod.refl [] w7).drew).mono ?_
        rintro e0 w8 ⟨rfl,m8⟩
        have hm8:Mod [] w7 w8:=(Mod.refl [] w7).drew.trans m8 (by simp)
        have HM8:=hide (HM7.out.trans hm8 (by simp))
        have HR8:=hide (hm8.blk HR7.out (by simp))
        have HO8:Hid (ROwn w8 w.heap.size A1 c1 ((⟨n0,n2,nnum 1 s,nnum 3 s,nnum 4 s,⟨tx.toArray⟩,y⟩:Ev).f.list)):=hide (HO7.out.mod hm8 (by simp))
        clear m8
        go_wp2_with fail
        refine Ph.on (fun _=>hm8.mono (by simp)) ?_
        have HM8c:=hide hm8
        clear hm8
        show wpQuiet _ _ _ _ _ _
        simp only[List.map_cons,List.map_nil,List.getD_cons_zero,List.getD_cons_succ]
        refine wpQuiet_nil ?_
        go_wp2_with (refine wpList_store_whole rfl 38 _ _ rfl rfl w.heap.size 38 (ecs none 0 0 ev0) cs HR8.out rfl rfl (by rw[HCz.out];kernel_rfl) (by rw[HCz.out];rfl) HC1.out ?_;intro w9 m9 b9 s9;have HM9:=hide (HM8.out.trans m9 (by simp));have HM9c:Hid (Mod [w.heap.size] w7 w9):=hide ((HM8c.out.mono (by simp)).trans m9 (fun x hx=> .inl hx));have HB9:=hide b9;have HO9:Hid (ROwn w9 w.heap.size A1 c1 ((⟨n0,n2,nnum 1 s,nnum 3 s,nnum 4 s,⟨tx.toArray⟩,y⟩:Ev).f.list)):=hide (HO8.out.mod m9 (by intro g o h;have:=HO8.out.ne HR8.out (by decide) g o h;simpa using this));clear m9 b9 s9)
        refine Ph.on (fun _=>HM9c.out) ?_
        show wpQuiet _ _ _ _ _ _
        simp only[List.map_cons,List.map_nil,List.getD_cons_zero,List.getD_cons_succ]
        repeat (go_big_quiet_step (fail))
        refine wpQuiet_nil ?_
        go_wp2_with fail
        refine bodyPost_ret (results_cell_tmp_row rfl _ _ w.heap.size 38 cs _ rfl HB9.out Tryz.underlying38 rfl (by rw[HCz.out];kernel_rfl)) rfl ?_
        have hpa:=HPa.out
        rw[HV.out]at hpa
        refine⟨A1,c1,⟨n0,n2,nnum 1 s,nnum 3 s,nnum 4 s,⟨tx.toArray⟩,y⟩,?_,fun e' he=> ?_,HO9.out,HL5.out,HM9.out⟩
        ·rw[hpa,←HCs.out]
         cases v <;> rfl
        ·rw[hpa]at he
         cases v with
         | false=>cases he
         | true=>exact Option.some.inj he
def EV.Good (v:EV) (w:World) (B:Nat):Prop:=ROwn w B v.A v.c v.e.f.list∧v.e.f.list.length≤64
theorem EV.Good.new {v:EV} {w w':World} {B B':Nat} (h:v.Good w B) (m:Mod [] w w') (hB:B'≤B):v.Good w' B':=⟨(h.1.base hB).mod m (by simp),h.2⟩
def EsOwn (w:World) (B:Nat) (A:Option Addr) (c:Nat) (l:List EV):Prop:=w.ownsRow B 38 14 (.slice A l.length c) l.length (l.flatMap EV.cells)∧∀v∈l,v.Good w B
theorem EsOwn.nil (w:World) (B:Nat):EsOwn w B none 0 []:=⟨World.ownsRow_nil _ _ _ _,by simp⟩
theorem EsOwn.new {w w':World} {B:Nat} {A:Option Addr} {c:Nat} {l:List EV} (h:EsOwn w B A c l) (m:Mod [] w w'):EsOwn w' B A c l:=
 ⟨m.own h.1 (by simp),fun v hv=>(h.2 v hv).new m (Nat.le_refl _)⟩
theorem eventInfo:(Tryz.prog.info? 38).map (fun i=>(i.zero,i.size,i.bytes))=some (some (.agg (ecs none 0 0 ev0)),14,152):=by kernel_rfl
theorem EsOwn.app {w:World} {B:Nat} {A:Option Addr} {c:Nat} {l:List EV} (h:EsOwn w B A c l) (hB:B≤w.heap.size) (hn:l.length≤10000000) (v:EV) (hv:v.Good w B) (g:Nat) (hg:Blk w g 38 (ecs v.A v.e.f.list.length v.c v.e)):
  ∃A' c' w',(Builtin.append_ #[23,23] 23 #[.slice A l.length c,.slice (some ⟨g,0,none⟩) 1 1]).run Tryz.prog w=.ok (.slice A' (l.length+1) c') w'∧EsOwn w' B A' c' (l++ [v])∧
   Mod (Value.slice A l.length c).ownBlock.toList w w':=by
 obtain⟨A',c',w',hrun,hown,hm,_⟩:=app_one (P:=Tryz.prog) Tryz.underlying23 eventInfo rfl w 23 B _ l.length _ h.1 hB v.cells rfl
  (fun u hu=>Array.all_eq_true_iff_forall_mem.1 (ecs_one v.A v.e.f.list.length v.c v.e) u (by simpa [EV.cells] using hu)) (by omega) (by omega) g (fun j u hu=>by
  rw[hg.cell j]
  simpa [EV.cells] using hu)
 refine⟨A',c',w',hrun,⟨?_,?_⟩,hm⟩
 ·have e:(l++ [v]).length=l.length+1:=by simp
  have e2: [v].flatMap EV.cells=v.cells:=by simp
  rw[e,List.flatMap_append,e2]
  exact hown
 ·have hfar:∀u:EV,u.Good w B→u.Good w' B:=fun u hu=>⟨hu.1.mod hm (fun g' o' hA hmem=>by
   have hk:(Value.slice A l.length c).ownBlock=some g':=by simpa using hmem
   rcases h.1.2 with⟨h0,_⟩ | ⟨g2,cap,cur,hv2,_,hh,_⟩
   ·rw[h0]at hk;simp[Value.ownBlock]at hk
   ·rw[hv2]at hk
    have e:g2=g':=by simpa [Value.ownBlock] using hk
    have hb:Blk w g2 38 cur:=hh
    exact hu.1.ne hb (by decide) g' o' hA e.symm),hu.2⟩
  intro u hu
  rcases List.mem_append.1 hu with h1 | h1
  ·exact hfar u (h.2 u h1)
  ·simp at h1
   subst h1
   exact hfar _ hv
theorem EsOwn.ein {w:World} {B:Nat} {A:Option Addr} {c:Nat} {l:List EV} (h:EsOwn w B A c l) (hl:l.length≤10000000):EIn w A l:=by
 refine⟨⟨by omega,?_⟩,fun x hx=>(h.2 x hx).1.rngs (by have:=(h.2 x hx).2;omega)⟩
 rcases h.1.2 with⟨h0,h1⟩ | ⟨g,cap,cur,hv,_,hh,_⟩
 ·left
  have:=congrArg (fun v=>match v with | Value.slice _ n _=>n | _=>0) h0
  exact List.eq_nil_of_length_eq_zero this
 ·cases hv
  refine .inr ⟨g,0,rfl,Blk.lt hh,fun i x hx j u hu=> ?_⟩
  have hj:j < 14:=(List.getElem?_eq_some_iff.1 hu).1
  have:=World.ownsRow.cells h.1 (g:=g) rfl (i * 14+j) _ ((flat_get EV.cells 14 (fun _=>rfl) l i j x hx hj).trans hu)
  rw[Addr.add_lit]at this
  rw[Nat.zero_add]
  rw[Nat.zero_add]at this
  exact this
def OnePost (R:One) (w:World) (s:List UInt8) (r:Ending) (w':World):Prop:=
 ∃(x:EV) (q:ByteArray) (ok:Bool),r=.returned (.tuple #[x.val,.string q,.bool ok])∧Mod [] w w'∧x.Good w' w.heap.size∧(match R s with | some y=>ok=true∧x.e=y.1∧q.data.toList=y.2 | none=>ok=false)
def glue (p:List Ev) (x:Option (List Ev)×List UInt8):Option (List Ev)×List UInt8:=(x.1.map (p++ ·),x.2)
theorem glue_glue (p q:List Ev) (x:Option (List Ev)×List UInt8):glue p (glue q x)=glue (p++ q) x:=by
 obtain⟨a,b⟩:=x
 cases a <;> simp[glue]
def rall (R:One) (s:List UInt8):Option (List Ev)×List UInt8:=rloop R (s.length+1) s
theorem rtell_ok {R:One} {s q:List UInt8} {l:List Ev} (h:rall R s=(some l,q)):rtell R s=(l,0,0):=by unfold rtell;unfold rall at h;rw[h]
theorem rtell_no {R:One} {s q:List UInt8} (h:rall R s=(none,q)):rtell R s=([],(s.length:Int) - q.length,2):=by unfold rtell;unfold rall at h;rw[h]
theorem rall_nil (R:One):rall R []=(some [],[]):=by unfold rall rloop;simp
theorem rall_bad {R:One} {s:List UInt8} (hs:s≠ []) (h:R s=none):rall R s=(none,s):=by unfold rall rloop;rw[if_neg hs,h]
theorem rall_go {O:Ev→List UInt8} {R:One} (hR:Reads O R) {s r:List UInt8} {e:Ev} (hs:s≠ []) (h:R s=some (e,r)):rall R s=glue [e] (rall R r):=by
 have:=(hR.may s e r h).2
 unfold rall
 conv=>lhs;unfold rloop
 rw[if_neg hs,h]
 simp only
 rw[rloop_fuel hR s.length (r.length+1) r this (Nat.lt_succ_self _)]
 cases rloop R (r.length+1) r with
 | mk a b=>cases a <;> rfl
def RdsPost (R:One) (w:World) (s:List UInt8) (r:Ending) (w':World):Prop:=
 ∃(A:Option Addr) (c:Nat) (l:List EV),r=.returned (.tuple #[.slice A l.length c,.int .i64 (rtell R s).2.1,.int .i64 (rtell R s).2.2])∧l.map EV.e=(rtell R s).1∧EsOwn w' w.heap.size A c l∧l.length≤s.length∧Mod [] w w'
theorem ereads_any (w:World) (s:ByteArray) (hs:s.size≤10000000) (g:Nat) (O:Ev→List UInt8) (R:One) (hR:Reads O R) (hent:∀args w,(callFunc g args).run Tryz.prog w=.ok (.enter g args) w)
  (hg:∀(w':World) (x:ByteArray),Mod [] w w'→x.size≤s.size→Calls Tryz.prog g #[.string x] w' (OnePost R w' x.data.toList)):
  Calls Tryz.prog 32 #[.string s,.func (.func g) #[] #[]] w (RdsPost R w s.data.toList):=by
 have HG:=hide hg
 have HR:=hide hR
 clear hg hR
 go_enter Tryz.func32,Tryz.ntmps32
 go_wp2_with fail
 go_loopw [7,8] (fun lv sv wr=>∃(q:ByteArray) (vs:List EV) (A:Option Addr) (c:Nat),sv=.string q∧lv=.slice A vs.length c∧Hid (EsOwn wr w.heap.size A c vs)∧Hid (rall R s.data.toList=glue (vs.map EV.e) (rall R q.data.toList))∧Hid (q.size+vs.length≤s.size)∧Hid (Mod [] w wr)) (fun _ sv _=>match sv with | .string q=>q.size | _=>0)
 case atStart=>exact⟨s,[],none,0,rfl,rfl,hide (EsOwn.nil _ _),hide (by cases rall R s.data.toList with | mk a b=>cases a <;> rfl),hide (by simp),hide (Mod.refl _ _)⟩
 case round=>
  obtain⟨q,vs,A,c,rfl,rfl,ho,hq,hsz,hm⟩:=hrel
  by_cases h0:q.size=0
  ·have e0:=empty_true h0
   have hn:q.data.toList= []:=List.eq_nil_of_length_eq_zero (by rw[bytes_len];exact h0)
   have hE:rtell R s.data.toList=(vs.map EV.e,0,0):=by
    refine rtell_ok (q:= []) ?_
    rw[hq.out,hn,rall_nil]
    simp[glue]
   have HE:=hide hE
   clear h0 hn hE hq
   go_wp2_with fail
   refine bodyPost_ret (results_tmp3 rfl _ _ _) rfl ?_
   refine⟨A,c,vs,?_,?_,ho.out,?_,hm.out⟩
   ·rw[HE.out];rfl
   ·rw[HE.out]
   ·rw[bytes_len];have:=hsz.out;omega
  ·have e0:=empty_false h0
   have HNe:Hid (q.data.toList≠ []):=hide (fun h=>h0 (by rw[←bytes_len,h];rfl))
   have hgq:=hide (HG.out wr q hm.out (by have:=hsz.out;omega))
   clear h0
   go_wp2_with fail
   refine hgq.out.mono ?_
   rintro e1 w2 ⟨x,q2,ok,rfl,m2,hgd,hok⟩
   have HOk:=hide hok
   have HM2:=hide (hm.out.trans m2 (by simp))
   have HO2:=hide (ho.out.new m2)
   have HGd:=hide (hgd.new (Mod.refl [] w2) hm.out.size)
   clear m2 hgd hok hgq ho hm
   obtain⟨xe,xA,xc⟩:=x
   go_upto_region 5 with(refine wpList_store_open rfl 38 _ _ rfl rfl _ (ecs xA xe.f.list.length xc xe) rfl rfl (by kernel_rfl) rfl (by kernel_rfl) ?_;intro w3 m3 b3 s3;have HM3:=hide (HM2.out.trans m3 (by simp));have HO3:=hide (HO2.out.new m3);have HGd3:=hide (HGd.out.new m3 (Nat.le_refl _));have XL3:Hid (w3.rangeAt w2.heap.size 0 [.int .i64 xe.kind,.int .i64 xe.space,.int .u64 (xe.time:Nat),.int .u64 (xe.num:Nat),.int .u64 (xe.many:Nat),.string xe.text,.int .u64 (xe.f.kind:Nat),.int .u64 (xe.f.a:Nat),.int .u64 (xe.f.b:Nat),.int .u64 (xe.f.c:Nat),.bool xe.f.fin,.string xe.f.data,.string xe.f.more,.slice xA xe.f.list.length xc]):=hide b3.range;clear m3 b3 s3)
   cases ok with
   | false=>
    have hno:R q.data.toList=none:=by
     have:=HOk.out
     cases hr:R q.data.toList with
     | none=>rfl
     | some y=>rw[hr]at this;cases this.1
    have hE:rtell R s.data.toList=([],(s.size:Int) - q.size,2):=by
     rw[rtell_no (q:=q.data.toList) (by rw[hq.out,rall_bad HNe.out hno];rfl),bytes_len,bytes_len]
    have HE:=hide hE
    have hb1:(0:Int)≤(s.size:Int) - q.size:=by have:=hsz.out;omega
    have hb2:(s.size:Int) - q.size≤10000000:=by omega
    clear hno hE hq HOk
    go_wp2_with fail
    refine bodyPost_ret (results_tmp3 rfl _ _ _) rfl ?_
    refine⟨none,0,[],?_,?_,EsOwn.nil _ _,Nat.zero_le _,HM3.out⟩
    ·rw[HE.out];rfl
    ·rw[HE.out];rfl
   | true=>
    obtain⟨r,hr⟩:∃r,R q.data.toList=some (xe,r)∧q2.data.toList=r:=by
     have:=HOk.out
     cases hr:R q.data.toList with
     | none=>rw[hr]at this;cases this
     | some y=>
      rw[hr]at this
      obtain⟨_,h1,h2⟩:=this
      exact⟨y.2,by rw[h1],h2⟩
    have hlt:q2.size < q.size:=by
     have:=(HR.out.may _ _ _ hr.1).2
     rw[←hr.2,bytes_len,bytes_len]at this
     exact this
    have hgl:rall R s.data.toList=glue ((vs++ [(⟨xe,xA,xc⟩:EV)]).map EV.e) (rall R q2.data.toList):=by
     rw[hq.out,rall_go HR.out HNe.out hr.1,glue_glue,hr.2]
     simp
    have HGl:=hide hgl
    have HLt:=hide hlt
    have hm4:=(Mod.refl [] w3).alloc (.cells (ecs xA xe.f.list.length xc xe) 38)
    have hz4:=HM3.out.trans hm4 (by simp)
    obtain⟨A',c',w6,hrun,hown,hm6⟩:=(HO3.out.new hm4).app hz4.size (by have:=hsz.out;omega) ⟨xe,xA,xc⟩ (HGd3.out.new hm4 (Nat.le_refl _)) _ (Blk.new w3 38 (ecs xA xe.f.list.length xc xe))
    have HRun:=hide hrun
    have HOwn:=hide hown
    have HMm:=hide (hz4.keep hm6 (HO3.out.new hm4).1 (Nat.le_refl _))
    clear hm4 hz4 hrun hown hm6 hgl hlt hr hq HOk HO3 HGd3
    unfold ecs at HRun
    go_wp2_with (first | (refine wpList_load_mid rfl 38 _ rfl w2.heap.size 0 rfl [.int .i64 xe.kind,.int .i64 xe.space,.int .u64 (xe.time:Nat),.int .u64 (xe.num:Nat),.int .u64 (xe.many:Nat),.string xe.text,.int .u64 (xe.f.kind:Nat),.int .u64 (xe.f.a:Nat),.int .u64 (xe.f.b:Nat),.int .u64 (xe.f.c:Nat),.bool xe.f.fin,.string xe.f.data,.string xe.f.more,.slice xA xe.f.list.length xc] _ XL3.out rfl rfl (by kernel_rfl) ?_) | (at_builtin;refine Lib.wpList_append_run _ rfl (.tmp 29) (.tmp 31) 23 23 rfl (.slice A vs.length c) (.slice (some ⟨w3.heap.size,0,none⟩) 1 1) rfl rfl _ w6 HRun.out ?_))
    go_roundw
    case rel=>exact⟨q2,vs++ [(⟨xe,xA,xc⟩:EV)],A',c',rfl,by simp,HOwn,HGl,hide (by have:=hsz.out;have:=HLt.out;simp;omega),HMm⟩
    case measure=>exact HLt.out
theorem OnePost.no {R:One} {w w':World} {s:List UInt8} (q:ByteArray) (h:R s=none) (m:Mod [] w w'):OnePost R w s (.returned (.tuple #[.agg (ecs none 0 0 ev0),.string q,.bool false])) w':=
 ⟨⟨ev0,none,0⟩,q,false,rfl,m,⟨ROwn.nil _ _,by simp[ev0,fr0]⟩,by rw[h]⟩
theorem OnePost.of {R:One} {w w':World} {s:List UInt8} {A:Option Addr} {c:Nat} {e:Ev} (q:ByteArray) (ok:Bool) (m:Mod [] w w') (ho:ROwn w' w.heap.size A c e.f.list) (hl:e.f.list.length≤64)
  (h:match R s with | some y=>ok=true∧e=y.1∧q.data.toList=y.2 | none=>ok=false):OnePost R w s (.returned (.tuple #[.agg (ecs A e.f.list.length c e),.string q,.bool ok])) w':=⟨⟨e,A,c⟩,q,ok,rfl,m,⟨ho,hl⟩,h⟩
theorem bin_one (w:World) (x:ByteArray) (hx:x.size≤10000000):Calls Tryz.prog 33 #[.string x] w (OnePost eread w x.data.toList):=by
 have HR0:=hide (Blk.new w 38 (ecs none 0 0 ev0))
 have HM0:=hide ((Mod.refl [] w).alloc (.cells (ecs none 0 0 ev0) 38))
 have htk:=etook_any (w.alloc (.cells (ecs none 0 0 ev0) 38)) x (by omega)
 obtain⟨s,hs⟩:∃s,x.data.toList=s:=⟨_,rfl⟩
 rw[hs]at htk ⊢
 have hsl:s.length≤10000000:=by rw[←hs,bytes_len];exact hx
 clear hs hx
 cases hp:ptext s with
 | none=>
  rw[tookV_no hp]at htk
  have HTk:=hide htk
  have HNo:Hid (eread s=none):=hide (by unfold eread;rw[hp];rfl)
  clear htk hp
  go_enter Tryz.func33,Tryz.ntmps33
  go_wp2_with fail
  refine HTk.out.mono ?_
  rintro e0 w2 ⟨rfl,m2⟩
  have HM2:=hide (HM0.out.trans m2 (by simp))
  have HR2:=hide (m2.blk HR0.out (by simp))
  clear m2
  go_upto_region 3 with fail
  go_wp2_with (refine wpList_store_whole rfl 38 _ _ rfl rfl w.heap.size 38 (ecs none 0 0 ev0) (ecs none 0 0 ev0) HR2.out rfl rfl (by kernel_rfl) rfl (by kernel_rfl) ?_;intro w9 m9 b9 s9;have HM9:=hide (HM2.out.trans m9 (by simp));have HB9:=hide b9;clear m9 b9 s9)
  refine bodyPost_ret (results_cell_tmp2_row rfl _ _ w.heap.size 38 (ecs none 0 0 ev0) _ rfl HB9.out Tryz.underlying38 rfl (by kernel_rfl)) rfl ?_
  exact OnePost.no _ HNo.out HM9.out
 | some t=>
  obtain⟨a,b⟩:=t
  rw[tookV_yes hp]at htk
  obtain⟨hp1,_⟩:=ptext_some hp
  have hal:a.length≤10000000:=by rw[hp1]at hsl;simp only[List.length_append]at hsl;omega
  have HEr:Hid (eread s=if a.length≤65536 then(eparse a).map fun e=>(e,b)else none):=hide (by unfold eread;rw[hp];rfl)
  obtain⟨qa,hqa⟩:∃q:ByteArray,(⟨a.toArray⟩:ByteArray)=q:=⟨_,rfl⟩
  obtain⟨qb,hqb⟩:∃q:ByteArray,(⟨b.toArray⟩:ByteArray)=q:=⟨_,rfl⟩
  have hqs:qa.size=a.length:=by rw[←hqa];rfl
  have hqd:qa.data.toList=a:=by rw[←hqa]
  have hqb2:qb.data.toList=b:=by rw[←hqb]
  have HQb:=hide hqb2
  unfold str at htk
  rw[hqa,hqb]at htk
  have HTk:=hide htk
  clear htk hp hp1 hqa hqb hqb2
  by_cases hbig:65536 < qa.size
  ·have HNo:Hid (eread s=none):=hide (by rw[HEr.out,if_neg (by omega)])
   clear hqs hqd
   go_enter Tryz.func33,Tryz.ntmps33
   go_wp2_with fail
   refine HTk.out.mono ?_
   rintro e0 w2 ⟨rfl,m2⟩
   have HM2:=hide (HM0.out.trans m2 (by simp))
   have HR2:=hide (m2.blk HR0.out (by simp))
   clear m2
   go_upto_region 3 with fail
   go_wp2_with (refine wpList_store_whole rfl 38 _ _ rfl rfl w.heap.size 38 (ecs none 0 0 ev0) (ecs none 0 0 ev0) HR2.out rfl rfl (by kernel_rfl) rfl (by kernel_rfl) ?_;intro w9 m9 b9 s9;have HM9:=hide (HM2.out.trans m9 (by simp));have HB9:=hide b9;clear m9 b9 s9)
   refine bodyPost_ret (results_cell_tmp2_row rfl _ _ w.heap.size 38 (ecs none 0 0 ev0) _ rfl HB9.out Tryz.underlying38 rfl (by kernel_rfl)) rfl ?_
   exact OnePost.no _ HNo.out HM9.out
  ·have hb:=fun w'=>ebytes_any w' qa (by omega)
   rw[hqd]at hb
   have HB:=hide hb
   have HEr2:Hid (eread s=(eparse a).map fun e=>(e,b)):=hide (by rw[HEr.out,if_pos (by omega)])
   clear hb hqs hqd HEr
   go_enter Tryz.func33,Tryz.ntmps33
   go_wp2_with fail
   refine HTk.out.mono ?_
   rintro e0 w2 ⟨rfl,m2⟩
   have HM2:=hide (HM0.out.trans m2 (by simp))
   have HR2:=hide (m2.blk HR0.out (by simp))
   clear m2
   go_wp2_with fail
   refine(HB.out _).mono ?_
   rintro e0 w3 ⟨A,c,e,rfl,he,o3,l3,m3⟩
   have HM3:=hide (HM2.out.trans m3 (by simp))
   have HR3:=hide (m3.blk HR2.out (by simp))
   have HO3:=hide (o3.base HM2.out.size)
   have HHe:=hide he
   clear m3 o3 he
   obtain⟨ok,hok⟩:∃ok,(eparse a).isSome=ok:=⟨_,rfl⟩
   rw[hok]
   have HOk:=hide hok
   clear hok
   obtain⟨cs,hcs⟩:∃cs,ecs A e.f.list.length c e=cs:=⟨_,rfl⟩
   have HCs:=hide hcs
   have HCz:Hid (cs.size=14):=hide (by rw[←hcs];rfl)
   have HC1:Hid (cs.all (·.oneCell')=true):=hide (by rw[←hcs];exact ecs_one _ _ _ _)
   unfold evval
   rw[hcs]
   clear hcs
   go_upto_region 5 with(refine wpList_store_open rfl 38 _ _ rfl rfl _ cs rfl rfl (by rw[HCz.out];kernel_rfl) (by rw[HCz.out];rfl) HC1.out ?_;intro w6 m6 b6 s6;have HM6:=hide (HM3.out.trans m6 (by simp));have HR6:=hide (m6.blk HR3.out (by simp));have HO6:=hide (HO3.out.mod m6 (by simp));have HX6:=hide b6.range;clear m6 b6 s6)
   go_wp2_with (first | (refine wpList_load_mid rfl 38 _ rfl w3.heap.size 0 rfl cs.toList _ HX6.out rfl rfl (by rw[Array.length_toList,HCz.out];kernel_rfl) ?_) | (refine wpList_store_whole rfl 38 _ _ rfl rfl w.heap.size 38 (ecs none 0 0 ev0) cs HR6.out rfl rfl (by rw[HCz.out];kernel_rfl) (by rw[HCz.out];rfl) HC1.out ?_;intro w9 m9 b9 s9;have HM9:=hide (HM6.out.trans m9 (by simp));have HB9:=hide b9;have HO9:=hide (HO6.out.mod m9 (by intro g o h;have:=HO6.out.ne HR6.out (by decide) g o h;simpa using this));clear m9 b9 s9))
   refine bodyPost_ret (results_cell_tmp2_row rfl _ _ w.heap.size 38 cs _ rfl HB9.out Tryz.underlying38 rfl (by rw[HCz.out];kernel_rfl)) rfl ?_
   rw[←HCs.out]
   refine OnePost.of _ _ HM9.out HO9.out l3 ?_
   rw[HEr2.out]
   have h1:=HHe.out
   have h2:=HOk.out
   cases hq:eparse a with
   | none=>rw[hq]at h2;exact h2.symm
   | some y=>rw[hq]at h2;exact⟨h2.symm,h1 y hq,HQb.out⟩
theorem readbin_any (w:World) (s:ByteArray) (hs:s.size≤10000000):Calls Tryz.prog 12 #[.string s] w (RdsPost eread w s.data.toList):=by
 have H:=hide (ereads_any w s hs 33 eone eread ereads (fun args w=>by kernel_rfl) (fun w' x _ hx=>bin_one w' x (by omega)))
 go_enter Tryz.func12,Tryz.ntmps12
 go_wp2_with fail
 refine H.out.mono ?_
 rintro e0 w1 ⟨A,c,l,rfl,h1,h2,h3,m1⟩
 go_wp2_with fail
 refine bodyPost_ret (results_tmp3 rfl _ _ _) rfl ?_
 exact⟨A,c,l,rfl,h1,h2,h3,m1⟩
end Go.Proofs.YtlfjhgamlkbofaaGreatDoor
