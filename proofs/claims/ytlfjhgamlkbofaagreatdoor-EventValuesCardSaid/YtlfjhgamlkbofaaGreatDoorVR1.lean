/-
  Contracts of the functions that the laws of this seat reach, and plain laws, part 14 of 15; no condition.
-/
import Derived.Test.YtlfjhgamlkbofaaGreatDoorVF1
import Derived.Test.YtlfjhgamlkbofaaGreatDoorVC
import Derived.Outline
import Derived.Deep.Cut
import Derived.Test.YtlfjhgamlkbofaaGreatDoorVE6
import Derived.Test.YtlfjhgamlkbofaaGreatDoorVE3
import Derived.Test.YtlfjhgamlkbofaaGreatDoorVJ1
import Derived.Test.YtlfjhgamlkbofaaGreatDoorVJ3
set_option linter.unusedVariables false
set_option linter.unusedSimpArgs false
set_option linter.unnecessarySimpa false
set_option maxRecDepth 100000
set_option maxHeartbeats 16000000
namespace Go.Proofs.YtlfjhgamlkbofaaGreatDoor
open Go.RowKit
def vnum (s:List UInt8):Option (Nat×List UInt8):=if(vtake s).e=0 then some ((vtake s).n,(vtake s).rest)else none
def vnums:Nat→List UInt8→Option (List Nat×List UInt8)
 | 0,s=>some ([],s)
 | n+1,s=>(vnum s).bind fun x=>(vnums n x.2).map fun y=>(x.1 ::y.1,y.2)
def fnumbers (k:Nat):Option Nat:=
 if k=5∨k=8∨k=17∨k=21∨k=24∨k=28 then some 2
 else if k=1∨k=7∨k=26∨k=27∨k=30 then some 0
 else if k=0∨k=2∨k=6∨k=16∨k=18∨k=19∨k=20∨k=22∨k=23∨k=25∨k=29 then some 1
 else if k=3∨k=4 then some 3
 else none
def fdata (k:Nat):Bool:=decide (k=6) || decide (k=7) || decide (k=8) || decide (k=24) || decide (k=26) || decide (k=27) || decide (k=28) || decide (k=29)
def hrng:Nat→Nat→List UInt8→Option (List (Nat×Nat)×List UInt8)
 | 0,_,s=>some ([],s)
 | k+1,low,s=>(vnums 2 s).bind fun x=>if low < x.1.getD 0 0+2∨low - x.1.getD 0 0 - 2 < x.1.getD 1 0 then none else
   (hrng k (low - x.1.getD 0 0 - 2 - x.1.getD 1 0) x.2).map fun y=>((low - x.1.getD 0 0 - 2 - x.1.getD 1 0,low - x.1.getD 0 0 - 2) ::y.1,y.2)
def fnumI (k:Nat):Int:=match fnumbers k with
 | some n=>(n:Nat)
 | none=> -1
theorem fnumbers_none {k:Nat} (h:¬(k=5∨k=8∨k=17∨k=21∨k=24∨k=28∨k=1∨k=7∨k=26∨k=27∨k=30∨k=0∨k=2∨k=6∨k=16∨k=18∨k=19∨k=20∨k=22∨k=23∨k=25∨k=29∨k=3∨k=4)):fnumbers k=none:=by unfold fnumbers;repeat rw[if_neg (by omega)]
theorem rnumbers_any (w:World) (k:Nat):Calls Tryz.prog 91 #[.int .u64 k] w fun e w'=>e=.returned (.int .i64 (fnumI k))∧w=w':=by
 by_cases h:k=5∨k=8∨k=17∨k=21∨k=24∨k=28∨k=1∨k=7∨k=26∨k=27∨k=30∨k=0∨k=2∨k=6∨k=16∨k=18∨k=19∨k=20∨k=22∨k=23∨k=25∨k=29∨k=3∨k=4
 ·rcases h with rfl | rfl | rfl | rfl | rfl | rfl | rfl | rfl | rfl | rfl | rfl | rfl | rfl | rfl | rfl | rfl | rfl | rfl | rfl | rfl | rfl | rfl | rfl | rfl;all_goals
   go_enter Tryz.func91,Tryz.ntmps91
   go_wp2_with fail
   go_ret
   exact⟨rfl,rfl⟩
 ·have HN:=hide (fnumbers_none h);have b5:((k:Int)==5)=false:=(by simp;omega);have b8:((k:Int)==8)=false:=(by simp;omega);have b17:((k:Int)==17)=false:=(by simp;omega);have b21:((k:Int)==21)=false:=(by simp;omega);have b24:((k:Int)==24)=false:=(by simp;omega);have b28:((k:Int)==28)=false:=(by simp;omega);have b1:((k:Int)==1)=false:=(by simp;omega);have b7:((k:Int)==7)=false:=(by simp;omega);have b26:((k:Int)==26)=false:=(by simp;omega);have b27:((k:Int)==27)=false:=(by simp;omega);have b30:((k:Int)==30)=false:=(by simp;omega);have b0:((k:Int)==0)=false:=(by simp;omega);have b2:((k:Int)==2)=false:=(by simp;omega);have b6:((k:Int)==6)=false:=(by simp;omega);have b16:((k:Int)==16)=false:=(by simp;omega);have b18:((k:Int)==18)=false:=(by simp;omega);have b19:((k:Int)==19)=false:=(by simp;omega);have b20:((k:Int)==20)=false:=(by simp;omega);have b22:((k:Int)==22)=false:=(by simp;omega);have b23:((k:Int)==23)=false:=(by simp;omega);have b25:((k:Int)==25)=false:=(by simp;omega);have b29:((k:Int)==29)=false:=(by simp;omega);have b3:((k:Int)==3)=false:=(by simp;omega);have b4:((k:Int)==4)=false:=(by simp;omega);clear h;go_enter Tryz.func91,Tryz.ntmps91;go_wp2_with fail;go_ret;exact⟨by unfold fnumI;rw[HN.out];rfl,rfl⟩
theorem fdata_none {k:Nat} (h:¬(k=6∨k=7∨k=8∨k=24∨k=26∨k=27∨k=28∨k=29)):fdata k=false:=by unfold fdata;simp only[Bool.or_eq_false_iff,decide_eq_false_iff_not];omega
theorem rdata_any (w:World) (k:Nat):Calls Tryz.prog 92 #[.int .u64 k] w fun e w'=>e=.returned (.bool (fdata k))∧w=w':=by
 by_cases h:k=6∨k=7∨k=8∨k=24∨k=26∨k=27∨k=28∨k=29
 ·rcases h with rfl | rfl | rfl | rfl | rfl | rfl | rfl | rfl;all_goals
   go_enter Tryz.func92,Tryz.ntmps92
   go_wp2_with fail
   go_ret
   exact⟨rfl,rfl⟩
 ·have HN:=hide (fdata_none h);have b6:((k:Int)==6)=false:=(by simp;omega);have c6:(k==6)=false:=(by simp;omega);have b7:((k:Int)==7)=false:=(by simp;omega);have c7:(k==7)=false:=(by simp;omega);have b8:((k:Int)==8)=false:=(by simp;omega);have c8:(k==8)=false:=(by simp;omega);have b24:((k:Int)==24)=false:=(by simp;omega);have c24:(k==24)=false:=(by simp;omega);have b26:((k:Int)==26)=false:=(by simp;omega);have c26:(k==26)=false:=(by simp;omega);have b27:((k:Int)==27)=false:=(by simp;omega);have c27:(k==27)=false:=(by simp;omega);have b28:((k:Int)==28)=false:=(by simp;omega);have c28:(k==28)=false:=(by simp;omega);have b29:((k:Int)==29)=false:=(by simp;omega);have c29:(k==29)=false:=(by simp;omega);clear h;go_enter Tryz.func92,Tryz.ntmps92;go_wp2_with fail;go_ret;exact⟨by rw[HN.out];rfl,rfl⟩
theorem rnumber_any (w:World) (Y:ByteArray) (hY:Y.size≤8):
  Calls Tryz.prog 94 #[.string Y] w fun e w'=>e=.returned (.int .u64 (numF 0 Y.data.toList:Nat))∧w=w':=by
 obtain⟨D,hD⟩:∃D,Y.data.toList=D:=⟨_,rfl⟩;have hDl:D.length=Y.size:=(by rw[←hD];exact Array.length_toList);have hat:∀j (h:j < D.length) (h2:j < Y.size),Y[j]'h2=D[j]:=fun j h h2=>getElem_list Y j _ _ (by rw[←List.getElem?_eq_getElem h,←hD]);have HAt:=hide hat;have HDl:=hide hDl;rw[hD];clear hat hD hDl;go_enter Tryz.func94,Tryz.ntmps94;go_wp2_with fail;go_loopw [3,4] (fun n i wr=>∃j:Nat,j≤Y.size∧i=.int .i64 (j:Int)∧n=.int .u64 (numF 0 (D.take j):Nat)∧wr=w) (fun _ i _=>Y.size - (intOf i).toNat)
 case atStart=>exact⟨0,by omega,rfl,rfl,by trivial⟩
 case round=>
  obtain⟨j,hj,rfl,rfl,rfl⟩:=hrel;by_cases h:j < Y.size
  ·have hjl:j < D.length:=(by rw[HDl.out];exact h);have c0:=HAt.out j hjl h;obtain⟨d,hd⟩:∃d,D[j]'hjl=d:=⟨_,rfl⟩;rw[hd]at c0;have hnext:numF 0 (D.take (j+1))=numF 0 (D.take j) * 256+d.toNat:=(by rw[←List.take_append_getElem hjl,hd];simp[numF]);have hbound:numF 0 (D.take j) < 256 ^ j:=by have h1:=numF_lt (D.take j);have h2:(D.take j).length=j:=(by rw[List.length_take];omega);rw[h2]at h1;exact h1
   have hp:(256:Nat) ^ j≤256 ^ 7:=Nat.pow_le_pow_right (by omega) (by omega);obtain⟨N,hN⟩:∃N,numF 0 (D.take j)=N:=⟨_,rfl⟩;rw[hN]at hnext hbound ⊢;have hNb:N < 72057594037927936:=by have:(256:Nat) ^ 7=72057594037927936:=rfl;omega
   have hd256:=d.toNat_lt;have HNext:=hide hnext;clear hnext hbound hp hN hd;go_wp2_with fail;go_roundw
   case rel=>exact⟨j+1,by omega,by go_num,by rw[HNext.out];go_num,by trivial⟩
   case measure=>simp[intOf];omega
  ·have hjm:j=Y.size:=(by omega);subst hjm;rw[List.take_of_length_le (by rw[HDl.out];exact Nat.le_refl _)];obtain⟨N,hN⟩:∃N,numF 0 D=N:=⟨_,rfl⟩;rw[hN];have HN:=hide hN;clear hN;go_wp2_with fail;go_ret;exact⟨by rw[HN.out];rfl,rfl⟩
theorem rfranges_any (w:World) (A:Option Addr) (n c:Nat) (l:List (Nat×Nat)) (h:Rngs w A n l) (v:Bool) (hv:rngs l=v):
  Calls Tryz.prog 93 #[.slice A n c] w (RPost w v):=by
 have hn1:=h.2.1;have hln:=h.1;have hv2:v=(rngOk none l && (decide (1≤n) && decide (n≤64))):=(by rw[←hv,←hln];rfl);have HV:=hide hv2;have HL:=hide h;have HLn:=hide hln;clear hv hv2 h hln;go_enter Tryz.func93,Tryz.ntmps93;go_wp2_with fail;go_loopw [3] (fun iv wr=>∃j:Nat,j≤n∧iv=.int .i64 (j:Int)∧Hid (rngOk none l=rngOk (prevOf l j) (l.drop j))∧Hid (∀p,prevOf l j=some p→p < 4611686018427387904)∧Mod [] w wr) (fun iv _=>n - (intOf iv).toNat)
 case atStart=>exact⟨0,by omega,rfl,hide rfl,hide (fun p hp=>by cases hp),Mod.refl _ _⟩
 case round=>
  obtain⟨j,hj,rfl,hC,hPb,hm⟩:=hrel;have HM:=hide hm;by_cases h:j < n
  ·obtain⟨g,o,hjl,rfl,hgl,c0,c1⟩:=(HL.out.new hm).at_ h;have hstep:=rngOk_step hjl;rw[←hC.out]at hstep;have hprev:0 < j→∃p,prevOf l j=some p∧wr.cell? ⟨g,o+(j - 1) * 2,none⟩=some (.int .u64 (p:Nat)):=fun h0=>(by obtain⟨g',o',hkl,he,_,d0,_⟩:=(HL.out.new hm).at_ (i:=j - 1) (by omega);cases he;refine⟨l[j - 1].1,?_,d0⟩;obtain⟨k,rfl⟩:∃k,j=k+1:=⟨j - 1,by omega⟩;unfold prevOf;simp only[Nat.add_sub_cancel];rw[List.getElem?_eq_getElem (by omega)];rfl);have hnp:prevOf l (j+1)=some l[j].1:=(by unfold prevOf;simp only;rw[List.getElem?_eq_getElem hjl];rfl);obtain⟨lo,hlo⟩:∃x,l[j].1=x:=⟨_,rfl⟩;obtain⟨hi,hhi⟩:∃x,l[j].2=x:=⟨_,rfl⟩;rw[hlo]at c0 hnp;rw[hhi]at c1;have hcond:condOk (prevOf l j) l[j]=(decide (lo≤hi) && decide (hi < 4611686018427387904) && (match prevOf l j with | none=>true | some p=>decide (2≤p) && decide (hi≤p - 2))):=(by unfold condOk;rw[hlo,hhi];cases prevOf l j <;> rfl);rw[hcond]at hstep;have hvf:∀X:Bool,X=false→rngOk none l=(X && rngOk (prevOf l (j+1)) (l.drop (j+1)))→v=false:=fun X hX he=>(by rw[HV.out,he,hX];rfl);have HVf:=hide hvf;have HPrev:=hide hprev;have HStep:=hide hstep;have HNp:=hide hnp;clear hC hprev hstep hcond hlo hhi hvf hjl hnp hm;by_cases h1:hi < lo
   ·have hf:=HVf.out _ (by rw[decide_eq_false (show ¬lo≤hi by omega)];rfl) HStep.out;have HF:=hide hf;have d1:decide ((hi:Int) < lo)=true:=decide_eq_true (by omega);have d2:decide (hi < lo)=true:=decide_eq_true h1;clear hf HVf HStep HPrev;go_wp2_with fail;go_quiet (fail);go_wp2_with fail;go_ret;exact⟨by rw[HF.out];rfl,HM.out.drewN _⟩
   have d1:decide ((hi:Int) < lo)=false:=decide_eq_false (by omega);have d2:decide (hi < lo)=false:=decide_eq_false h1;by_cases h2:4611686018427387903 < hi
   ·have hf:=HVf.out _ (by rw[decide_eq_false (show ¬hi < 4611686018427387904 by omega)];simp) HStep.out;have HF:=hide hf;have d3:decide ((4611686018427387904:Int)≤hi)=true:=decide_eq_true (by omega);have d4:decide (4611686018427387904≤hi)=true:=decide_eq_true h2;clear hf HVf HStep HPrev;go_wp2_with fail;go_quiet (fail);go_wp2_with fail;go_ret;exact⟨by rw[HF.out];rfl,HM.out.drewN _⟩
   have d3:decide ((4611686018427387904:Int)≤hi)=false:=decide_eq_false (by omega);have d4:decide (4611686018427387904≤hi)=false:=decide_eq_false h2;by_cases h0:0 < j
   ·obtain⟨p,hp,cp⟩:=HPrev.out h0;rw[hp]at HStep;have e1:(j:Int) - 1=((j - 1:Nat):Int):=(by omega);have hw1:IntKind.i64.wrap ((j:Int) - 1)=((j - 1:Nat):Int):=(by rw[e1];exact IntWalk.i64_in _ (by omega));have h0d:decide ((0:Int) < j)=true:=decide_eq_true (by omega);have h0n:decide (0 < j)=true:=decide_eq_true h0;have hjm:((j - 1:Nat):Int) < n:=(by omega);have HPp:=hide hp;clear hp;by_cases h3:p < 2
    ·have hf:=HVf.out _ (by simp only;rw[decide_eq_false (show ¬2≤p by omega)];simp) HStep.out;have HF:=hide hf;have d5:decide ((p:Int) < 2)=true:=decide_eq_true (by omega);have d6:decide (p < 2)=true:=decide_eq_true h3;clear hf HVf HStep HPrev;go_wp2_with fail;go_quiet (fail);go_wp2_with fail;go_quiet (fail);go_wp2_with fail;go_ret;exact⟨by rw[HF.out];rfl,by first | exact(HM.out.drewN _).drewN _ | exact HM.out.drewN _⟩
    ·have d5:decide ((p:Int) < 2)=false:=decide_eq_false (by omega);have d6:decide (p < 2)=false:=decide_eq_false h3;obtain⟨p2,hp2⟩:∃p2,p=p2+2:=⟨p - 2,by omega⟩;have HP2:=hide hp2;have hsub:(p:Int) - 2=(p2:Int):=(by omega);have hp64:p < 4611686018427387904:=hPb.out p HPp.out;by_cases h4:p2 < hi
     ·have hf:=HVf.out _ (by simp only;rw[decide_eq_false (show ¬hi≤p - 2 by omega)];simp) HStep.out;have HF:=hide hf;have d7:decide ((p2:Int) < hi)=true:=decide_eq_true (by omega);have d8:decide (p2 < hi)=true:=decide_eq_true h4;have hw2:IntKind.u64.wrap ((p:Int) - 2)=(p2:Int):=(by rw[hsub];exact IntWalk.u64_in _ (by omega));clear hf HVf HStep HPrev hp2;go_wp2_with fail;go_quiet (fail);go_wp2_with fail;go_quiet (fail);go_wp2_with fail;go_ret;exact⟨by rw[HF.out];rfl,by first | exact(HM.out.drewN _).drewN _ | exact HM.out.drewN _⟩
     ·have d7:decide ((p2:Int) < hi)=false:=decide_eq_false (by omega);have d8:decide (p2 < hi)=false:=decide_eq_false h4;have hw2:IntKind.u64.wrap ((p:Int) - 2)=(p2:Int):=(by rw[hsub];exact IntWalk.u64_in _ (by omega));have hnx:rngOk none l=rngOk (prevOf l (j+1)) (l.drop (j+1)):=(by rw[HStep.out];simp only;rw[decide_eq_true (show lo≤hi by omega),decide_eq_true (show hi < 4611686018427387904 by omega),decide_eq_true (show 2≤p by omega),decide_eq_true (show hi≤p - 2 by omega)];simp);have HNx:=hide hnx;have HPn:Hid (∀p,prevOf l (j+1)=some p→p < 4611686018427387904):=hide (fun p hp=>by rw[HNp.out]at hp;cases hp;omega);clear HVf HStep HPrev hp2 hnx hPb;go_wp2_with fail;go_quiet (fail);go_wp2_with fail;go_quiet (fail);go_wp2_with fail;go_roundw
      case rel=>exact⟨j+1,by omega,by go_num,HNx,HPn,by first | exact(HM.out.drewN _).drewN _ | exact HM.out.drewN _⟩
      case measure=>simp[intOf];omega
   ·have hj0:j=0:=(by omega);subst hj0;have hnx:rngOk none l=rngOk (prevOf l 1) (l.drop 1):=(by rw[HStep.out];have:prevOf l 0=none:=rfl;rw[this];simp only;rw[decide_eq_true (show lo≤hi by omega),decide_eq_true (show hi < 4611686018427387904 by omega)];simp);have HNx:=hide hnx;have HPn:Hid (∀p,prevOf l 1=some p→p < 4611686018427387904):=hide (fun p hp=>by rw[HNp.out]at hp;cases hp;omega);simp only[Nat.zero_mul,Nat.add_zero]at c0 c1;clear HVf HStep HPrev hnx hPb;go_wp2_with fail;go_quiet (fail);go_wp2_with fail;go_quiet (fail);go_wp2_with fail;go_roundw
    case rel=>exact⟨1,by omega,by go_num,HNx,HPn,by first | exact(HM.out.drewN _).drewN _ | exact HM.out.drewN _⟩
    case measure=>simp[intOf];omega
  ·have hjn:j=n:=(by omega);subst hjn;have hv3:v=(decide (1≤j) && decide (j≤64)):=(by rw[HV.out,hC.out,List.drop_of_length_le (by rw[HLn.out];exact Nat.le_refl _)];rfl);have HV3:=hide hv3;clear hv3 hC hPb hm;by_cases h1:0 < j
   ·have d1:decide ((1:Int)≤j)=true:=decide_eq_true (by omega);have d2:decide (1≤j)=true:=decide_eq_true h1;have d3:decide ((0:Int) < j)=true:=decide_eq_true (by omega);have d4:decide (0 < j)=true:=decide_eq_true h1;go_wp2_with fail;go_ret;refine⟨rbool ?_,HM.out⟩;rw[HV3.out,decide_eq_true (show 1≤j by omega),Bool.true_and];exact decide_eq_decide.2 (by omega)
   ·have d1:decide ((1:Int)≤j)=false:=decide_eq_false (by omega);have d2:decide (1≤j)=false:=decide_eq_false h1;have d3:decide ((0:Int) < j)=false:=decide_eq_false (by omega);have d4:decide (0 < j)=false:=decide_eq_false h1;go_wp2_with fail;go_ret;refine⟨rbool ?_,HM.out⟩;rw[HV3.out,decide_eq_false (show ¬1≤j by omega)];rfl
def fneed (f:Fr):Prop:=(fnumI f.kind < 1→f.a=0)∧(fnumI f.kind < 2→f.b=0)∧(fnumI f.kind < 3→f.c=0)∧(fdata f.kind=false→f.data.size=0)∧(f.kind≠8→f.fin=false)∧(f.kind≠3∧f.kind≠24→f.more.size=0)∧(f.kind≠2∧f.kind≠3→f.list= [])
def flow (f:Fr):Prop:=0≤fnumI f.kind∧f.a < 4611686018427387904∧f.b < 4611686018427387904∧f.c < 4611686018427387904∧f.data.size≤16384
def fend (f:Fr):Bool:=if f.kind=0 then decide (1≤f.a) && decide (f.a≤16384)else if f.kind=2 then rngs f.list else if f.kind=3 then rngs f.list && (decide (f.more.size=8) && decide (numF 0 f.more.data.toList < 4611686018427387904))
 else if f.kind=6 then decide (f.a+f.data.size < 4611686018427387904)else if f.kind=7 then decide (0 < f.data.size)else if f.kind=8 then decide (f.b+f.data.size < 4611686018427387904)
 else if f.kind=18∨f.kind=19∨f.kind=22∨f.kind=23 then decide (f.a≤1152921504606846976)else if f.kind=24 then decide (f.b≤f.a) && (decide (1≤f.data.size) && (decide (f.data.size≤20) && decide (f.more.size=16)))
 else if f.kind=26∨f.kind=27 then decide (f.data.size=8)else true
theorem exV {x y:Bool} (h:Hid (x=y)):∃V,y=V∧Hid (x=V):=⟨y,rfl,h⟩
def kds (k:Nat):Prop:=k=0∨k=2∨k=3∨k=24∨k=5∨k=8∨k=17∨k=21∨k=28∨k=1∨k=7∨k=26∨k=27∨k=30∨k=6∨k=16∨k=18∨k=19∨k=20∨k=22∨k=23∨k=25∨k=29∨k=4
theorem kds_of {k:Nat} (h:0≤fnumI k):kds k:=Decidable.byContradiction (p:=k=0∨_) fun h2=>by unfold fnumI at h;rw[fnumbers_none (fun h3=>h2 (by omega))]at h;exact absurd h (by decide)
theorem fmay_low {f:Fr} (h:fmay f=true):flow f:=by have h0:=h;unfold fmay at h;simp only[Bool.and_eq_true,decide_eq_true_eq]at h;refine⟨Decidable.byContradiction fun hn=> ?_,h.1.1.1.1,h.1.1.1.2,h.1.1.2,h.1.2⟩;have hk:¬kds f.kind:=(by unfold kds;rintro (h2 | h2 | h2 | h2 | h2 | h2 | h2 | h2 | h2 | h2 | h2 | h2 | h2 | h2 | h2 | h2 | h2 | h2 | h2 | h2 | h2 | h2 | h2 | h2) <;> (rw[h2]at hn;exact hn (by decide)));unfold kds at hk;have h5:=h.2;rw[fshape_none (by omega)]at h5;unfold fown at h5;rw[if_neg (by omega),if_neg (by omega),if_neg (by omega),if_neg (by omega)]at h5;cases h5
theorem fmay_end {f:Fr} (hl:flow f) (hn:fneed f):fmay f=fend f:=by
 obtain⟨k,a,b,c,fin,data,more,list⟩:=f;obtain⟨h0,ha,hb,hc,hd⟩:=hl;have hk:=kds_of h0;unfold fneed at hn;simp only at ha hb hc hd hn hk;rcases hk with rfl | rfl | rfl | rfl | rfl | rfl | rfl | rfl | rfl | rfl | rfl | rfl | rfl | rfl | rfl | rfl | rfl | rfl | rfl | rfl | rfl | rfl | rfl | rfl;all_goals
  simp[fnumI,fnumbers,fdata]at hn
  simp[fmay,fshape,fclear,flimits,fown,facks,fend,ha,hb,hc,hd,hn,Bool.and_assoc,Nat.pos_iff_ne_zero,Bool.and_comm,Bool.and_left_comm]
theorem fmay_need {f:Fr} (h:fmay f=true):fneed f:=by
 have h0:=(fmay_low h).1;obtain⟨k,a,b,c,fin,data,more,list⟩:=f;have hk:=kds_of h0;unfold fneed;simp only at hk ⊢;rcases hk with rfl | rfl | rfl | rfl | rfl | rfl | rfl | rfl | rfl | rfl | rfl | rfl | rfl | rfl | rfl | rfl | rfl | rfl | rfl | rfl | rfl | rfl | rfl | rfl;all_goals
  simp[fnumI,fnumbers,fdata]
  simp[fmay,fshape,fclear,flimits,fown,facks]at h
  (try simp only[h,and_self,implies_true,and_true,true_and,not_false_eq_true]) <;> (try omega)
theorem rmay_low (w:World) (A:Option Addr) (n c:Nat) (k a b e:Nat) (fin:Bool) (data more:ByteArray) (list:List (Nat×Nat)) (hr:Hid (Rngs w A n list)) (hbad:¬flow ⟨k,a,b,e,fin,data,more,list⟩):
  Calls Tryz.prog 54 #[fval A n c ⟨k,a,b,e,fin,data,more,list⟩] w (RPost w (fmay ⟨k,a,b,e,fin,data,more,list⟩)):=by
 have HV:Hid (fmay ⟨k,a,b,e,fin,data,more,list⟩=false):=hide (Bool.eq_false_iff.2 fun h=>hbad (fmay_low h));have HB:=hide hbad;have HN:=hide (fun w=>rnumbers_any w k);obtain⟨N,hN⟩:∃N,fnumI k=N:=⟨_,rfl⟩;have HE:=hide hN;rw[hN]at HN;unfold fval fcs;simp only;clear hbad hN;rcases hem (N < 0)with g0 | g0;rotate_left;rcases hem (4611686018427387904≤a)with g1 | g1;rotate_left;rcases hem (4611686018427387904≤b)with g2 | g2;rotate_left;rcases hem (4611686018427387904≤e)with g3 | g3;rotate_left;rcases hem (16384 < data.size)with g4 | g4;rotate_left
 ·exact absurd ⟨by rw[HE.out];have:=g0.out;omega,Nat.lt_of_not_le g1.out,Nat.lt_of_not_le g2.out,Nat.lt_of_not_le g3.out,Nat.le_of_not_lt g4.out⟩ HB.out
 all_goals
  try have n0:decide (N < 0)=true:=decide_eq_true g0.out
  try have n0:decide (N < 0)=false:=decide_eq_false g0.out
  try have ⟨a1,a2⟩:=bigT g1
  try have ⟨a1,a2⟩:=bigF g1
  try have ⟨b1,b2⟩:=bigT g2
  try have ⟨b1,b2⟩:=bigF g2
  try have ⟨e1,e2⟩:=bigT g3
  try have ⟨e1,e2⟩:=bigF g3
  try have ⟨d1,d2⟩:=d14T g4
  go_enter Tryz.func54,Tryz.ntmps54
  go_wp2_with fail
  refine(HN.out _).mono ?_
  rintro e w1 ⟨rfl,rfl⟩
  go_wp2_with fail
  go_ret
  exact RPost.of HV.out ((Mod.refl _ _).alloc _)
theorem kds_cls {k:Nat} (h:kds k):fnumI k=1∧fdata k=false∧k≠8∧k≠3∧k≠24∧k≠2∨fnumI k=0∧fdata k=false∧k≠8∧k≠3∧k≠24∧k≠2∨fnumI k=0∧fdata k=true∧k≠8∧k≠3∧k≠24∧k≠2∨fnumI k=2∧fdata k=false∧k≠8∧k≠3∧k≠24∧k≠2∨fnumI k=2∧fdata k=true∧k≠8∧k≠3∧k≠24∧k≠2∨fnumI k=1∧fdata k=true∧k≠8∧k≠3∧k≠24∧k≠2∨fnumI k=3∧fdata k=false∧k≠8∧k≠3∧k≠24∧k≠2∨fnumI k=2∧fdata k=true∧k=8∨fnumI k=2∧fdata k=true∧k=24∨fnumI k=3∧fdata k=false∧k=3∨fnumI k=1∧fdata k=false∧k=2:=by rcases h with rfl | rfl | rfl | rfl | rfl | rfl | rfl | rfl | rfl | rfl | rfl | rfl | rfl | rfl | rfl | rfl | rfl | rfl | rfl | rfl | rfl | rfl | rfl | rfl <;> simp[fnumI,fnumbers,fdata]
theorem rmay_bad (w:World) (A:Option Addr) (n c:Nat) (k a b e:Nat) (fin:Bool) (data more:ByteArray) (list:List (Nat×Nat)) (hr:Hid (Rngs w A n list)) (hl:Hid (flow ⟨k,a,b,e,fin,data,more,list⟩)) (hn:Hid (¬fneed ⟨k,a,b,e,fin,data,more,list⟩)):
  Calls Tryz.prog 54 #[fval A n c ⟨k,a,b,e,fin,data,more,list⟩] w (RPost w (fmay ⟨k,a,b,e,fin,data,more,list⟩)):=by
 have HV:Hid (fmay ⟨k,a,b,e,fin,data,more,list⟩=false):=hide (Bool.eq_false_iff.2 fun h=>hn.out (fmay_need h));have HE:Hid (list.length=n):=hide hr.out.1;have HN:=hide (fun w=>rnumbers_any w k);have HD:=hide (fun w=>rdata_any w k);have ⟨a1,a2⟩:=bigF (hide (Nat.not_le_of_lt hl.out.2.1));have ⟨b1,b2⟩:=bigF (hide (Nat.not_le_of_lt hl.out.2.2.1));have ⟨e1,e2⟩:=bigF (hide (Nat.not_le_of_lt hl.out.2.2.2.1));have ⟨d1,d2⟩:=d14F (hide (Nat.not_lt_of_le hl.out.2.2.2.2));have ha:=hl.out.2.1;have hb:=hl.out.2.2.1;have hd:=hl.out.2.2.2.2;simp only at a1 a2 b1 b2 e1 e2 d1 d2 ha hb hd;have hn62:=hr.out.2.1;unfold fval fcs;simp only;rcases kds_cls (show kds k from kds_of hl.out.1)with⟨c1,c2,c3⟩ | ⟨c1,c2,c3⟩ | ⟨c1,c2,c3⟩ | ⟨c1,c2,c3⟩ | ⟨c1,c2,c3⟩ | ⟨c1,c2,c3⟩ | ⟨c1,c2,c3⟩ | ⟨c1,c2,c3⟩ | ⟨c1,c2,c3⟩ | ⟨c1,c2,c3⟩ | ⟨c1,c2,c3⟩;all_goals
  as_aux_lemma=>
   rw[show fnumI k=_ from c1]at HN
   rw[show fdata k=_ from c2]at HD
   first | (have:=hide (show ¬fnumI k < 1 by rw[c1];decide)) | (rcases hem (a≠0)with h0 | h0;rotate_left)
   first | (have:=hide (show ¬fnumI k < 2 by rw[c1];decide)) | (rcases hem (b≠0)with h1 | h1;rotate_left)
   first | (have:=hide (show ¬fnumI k < 3 by rw[c1];decide)) | (rcases hem (e≠0)with h2 | h2;rotate_left)
   first | (have:=hide (show fdata k=true from c2)) | (rcases hem (0 < data.size)with h3 | h3;rotate_left)
   first | (have:=hide (show k=8 from c3)) | (rcases hem (fin=true)with h4 | h4;rotate_left)
   first | (have:=hide (show k=3∨k=24 by omega)) | (rcases hem (0 < more.size)with h5 | h5;rotate_left)
   first | (have:=hide (show k=2∨k=3 by omega)) | (rcases hem (0 < n)with h6 | h6;rotate_left)
   ·refine absurd (show fneed _ from⟨fun h=> ?_,fun h=> ?_,fun h=> ?_,fun h=> ?_,fun h=> ?_,fun h=> ?_,fun h=> ?_⟩) hn.out
    all_goals (try simp only at h) <;> (try rw[c1]at h) <;> (try rw[c2]at h) <;> first | exact Decidable.byContradiction h0.out | exact Decidable.byContradiction h1.out | exact Decidable.byContradiction h2.out | exact Nat.eq_zero_of_not_pos h3.out | exact Bool.eq_false_iff.2 h4.out | exact Nat.eq_zero_of_not_pos h5.out | exact List.eq_nil_of_length_eq_zero (HE.out.trans (Nat.eq_zero_of_not_pos h6.out)) | exact absurd h (by decide) | (exfalso;omega)
   all_goals
    clear c1 c2
    try have m8:((k:Int) !=8)=true:=by simp;omega
    try have m3:((k:Int) !=3)=true:=by simp;omega
    try have m24:((k:Int) !=24)=true:=by simp;omega
    try have m2:((k:Int) !=2)=true:=by simp;omega
    first | subst c3 | clear c3
    try have ⟨z0,y0⟩:=ne0T h0
    try have ⟨z0,y0⟩:=ne0F h0
    try have ⟨z1,y1⟩:=ne0T h1
    try have ⟨z1,y1⟩:=ne0F h1
    try have ⟨z2,y2⟩:=ne0T h2
    try have ⟨z2,y2⟩:=ne0F h2
    try have ⟨z3,y3⟩:=posT h3
    try have ⟨z3,y3⟩:=posF h3
    try (have q4:fin=true:=h4.out;subst q4)
    try (have q4:fin=false:=Bool.eq_false_iff.2 h4.out;subst q4)
    try have ⟨z5,y5⟩:=posT h5
    try have ⟨z5,y5⟩:=posF h5
    try have ⟨z6,y6⟩:=posT h6
    go_enter Tryz.func54,Tryz.ntmps54
    go_wp2_with fail
    refine(HN.out _).mono ?_
    rintro e w1 ⟨rfl,rfl⟩
    simp only[List.append_eq,List.cons_append,List.nil_append]at *
    go_wp2_with fail
    try (refine(HD.out _).mono ?_;rintro e w2 ⟨rfl,rfl⟩;go_wp2_with fail)
    go_ret
    exact RPost.of HV.out ((Mod.refl _ _).alloc _)
theorem rmay_good (w:World) (A:Option Addr) (n c:Nat) (k a b e:Nat) (fin:Bool) (data more:ByteArray) (list:List (Nat×Nat)) (hr:Hid (Rngs w A n list)) (hl:Hid (flow ⟨k,a,b,e,fin,data,more,list⟩)) (hn:Hid (fneed ⟨k,a,b,e,fin,data,more,list⟩)):
  Calls Tryz.prog 54 #[fval A n c ⟨k,a,b,e,fin,data,more,list⟩] w (RPost w (fmay ⟨k,a,b,e,fin,data,more,list⟩)):=by
 have HV:=hide (fmay_end hl.out hn.out);obtain⟨j,hk⟩:∃j,k=j:=⟨_,rfl⟩;have hj:kds j:=hk ▸ kds_of hl.out.1;have HE:Hid (list.length=n):=hide hr.out.1;have HRg:=hide (fun w' (h:Rngs w' A n list)=>rfranges_any w' A n c list h _ rfl);obtain⟨q0,q1,q2,q3,q4,q5,q6⟩:=hn.out;have HN:=hide (fun w=>rnumbers_any w k);have HD:=hide (fun w=>rdata_any w k);have ⟨a1,a2⟩:=bigF (hide (Nat.not_le_of_lt hl.out.2.1));have ⟨b1,b2⟩:=bigF (hide (Nat.not_le_of_lt hl.out.2.2.1));have ⟨e1,e2⟩:=bigF (hide (Nat.not_le_of_lt hl.out.2.2.2.1));have ⟨d1,d2⟩:=d14F (hide (Nat.not_lt_of_le hl.out.2.2.2.2));have ha:=hl.out.2.1;have hb:=hl.out.2.2.1;have hd:=hl.out.2.2.2.2;simp only at a1 a2 b1 b2 e1 e2 d1 d2 ha hb hd;have hn62:=hr.out.2.1;unfold fval fcs;simp only at q0 q1 q2 q3 q4 q5 q6 ⊢;rcases hj with rfl | rfl | rfl | rfl | rfl | rfl | rfl | rfl | rfl | rfl | rfl | rfl | rfl | rfl | rfl | rfl | rfl | rfl | rfl | rfl | rfl | rfl | rfl | rfl;all_goals
  first | rw[show fnumI k=0 by subst hk;rfl]at HN | rw[show fnumI k=1 by subst hk;rfl]at HN | rw[show fnumI k=2 by subst hk;rfl]at HN | rw[show fnumI k=3 by subst hk;rfl]at HN
  first | rw[show fdata k=true by subst hk;rfl]at HD | rw[show fdata k=false by subst hk;rfl]at HD
  try have ⟨z0,y0⟩:=ne0F (hide (fun h=>h (q0 (by subst hk;decide))))
  try have ⟨z1,y1⟩:=ne0F (hide (fun h=>h (q1 (by subst hk;decide))))
  try have ⟨z2,y2⟩:=ne0F (hide (fun h=>h (q2 (by subst hk;decide))))
  try have ⟨z3,y3⟩:=posF (hide (Nat.not_lt_of_le (Nat.le_of_eq (q3 (by subst hk;rfl)))))
  try (have q9:=q4 (by omega);subst q9)
  try have ⟨z5,y5⟩:=posF (hide (Nat.not_lt_of_le (Nat.le_of_eq (q5 (by omega)))))
  try have ⟨z6,y6⟩:=posF (a:=n) (hide (by have:=HE.out;rw[q6 (by omega)]at this;simp at this;omega))
  subst hk
  clear q0 q1 q2 q3 q4 q5 q6
 ·rcases hem (1≤a)with g1 | g1
  ·obtain⟨V,hV⟩:∃V,decide (a≤16384)=V:=⟨_,rfl⟩;have ⟨x1,x2⟩:=ge1T g1;have ⟨x3,x4⟩:=le14V hV;have ⟨x5,x6⟩:=posT (hide g1.out);replace HV:Hid (fmay _=V):=hide (HV.out.trans (by rw[←hV];show(decide (1≤a) && _)=_;rw[x2];rfl));clear hV;go_enter Tryz.func54,Tryz.ntmps54;go_wp2_with fail;refine(HN.out _).mono ?_;rintro e w1 ⟨rfl,rfl⟩;simp only[List.append_eq,List.cons_append,List.nil_append]at *;go_wp2_with fail;refine(HD.out _).mono ?_;rintro e w2 ⟨rfl,rfl⟩;go_wp2_with fail;go_ret;exact RPost.of HV.out ((Mod.refl _ _).alloc _)
  ·have ⟨x1,x2⟩:=ge1F g1;have ⟨x5,x6⟩:=posF (hide g1.out);replace HV:Hid (fmay _=false):=hide (HV.out.trans (by show(decide (1≤a) && _)=_;rw[x2];rfl));go_enter Tryz.func54,Tryz.ntmps54;go_wp2_with fail;refine(HN.out _).mono ?_;rintro e w1 ⟨rfl,rfl⟩;simp only[List.append_eq,List.cons_append,List.nil_append]at *;go_wp2_with fail;refine(HD.out _).mono ?_;rintro e w2 ⟨rfl,rfl⟩;go_wp2_with fail;go_ret;exact RPost.of HV.out ((Mod.refl _ _).alloc _)
 ·replace HV:Hid (fmay _=rngs list):=hide HV.out;go_enter Tryz.func54,Tryz.ntmps54;go_wp2_with fail;refine(HN.out _).mono ?_;rintro e w1 ⟨rfl,rfl⟩;simp only[List.append_eq,List.cons_append,List.nil_append]at *;go_wp2_with fail;refine(HD.out _).mono ?_;rintro e w2 ⟨rfl,rfl⟩;go_wp2_with fail;refine(HRg.out _ (hr.out.new ((Mod.refl [] w).alloc _))).mono ?_;rintro e w3 ⟨rfl,m3⟩;go_wp2_with fail;go_ret;exact RPost.of HV.out (((Mod.refl _ _).alloc _).trans m3 (by simp))
 ·cases hrg:rngs list with
  | false=>rw[hrg]at HRg;replace HV:Hid (fmay _=false):=hide (HV.out.trans (by show(rngs list && _)=_;rw[hrg];rfl));clear hrg;go_enter Tryz.func54,Tryz.ntmps54;go_wp2_with fail;refine(HN.out _).mono ?_;rintro e w1 ⟨rfl,rfl⟩;simp only[List.append_eq,List.cons_append,List.nil_append]at *;go_wp2_with fail;refine(HD.out _).mono ?_;rintro e w2 ⟨rfl,rfl⟩;go_wp2_with fail;refine(HRg.out _ (hr.out.new ((Mod.refl [] w).alloc _))).mono ?_;rintro e w3 ⟨rfl,m3⟩;go_wp2_with fail;go_ret;exact RPost.of HV.out (((Mod.refl _ _).alloc _).trans m3 (by simp))
  | true=>
   rw[hrg]at HRg;rcases hem (more.size=8)with g1 | g1
   ·have ⟨x1,x2⟩:=eq8T g1;have HNm:=hide (fun w'=>rnumber_any w' more (by rw[g1.out];exact Nat.le_refl 8));obtain⟨N,hN⟩:∃N,numF 0 more.data.toList=N:=⟨_,rfl⟩;obtain⟨V,hV⟩:∃V,decide (N < 4611686018427387904)=V:=⟨_,rfl⟩;rw[hN]at HNm;have ⟨x3,x4⟩:=numV hV;replace HV:Hid (fmay _=V):=hide (HV.out.trans (by show(rngs list && (decide (more.size=8) && decide (numF 0 more.data.toList < 4611686018427387904)))=_;rw[hrg,decide_eq_true g1.out,hN,hV];rfl));clear hV hN hrg;go_enter Tryz.func54,Tryz.ntmps54;go_wp2_with fail;refine(HN.out _).mono ?_;rintro e w1 ⟨rfl,rfl⟩;simp only[List.append_eq,List.cons_append,List.nil_append]at *;go_wp2_with fail;refine(HD.out _).mono ?_;rintro e w2 ⟨rfl,rfl⟩;go_wp2_with fail;refine(HRg.out _ (hr.out.new ((Mod.refl [] w).alloc _))).mono ?_;rintro e w3 ⟨rfl,m3⟩;have B3:=m3.blk (Blk.new w 36 #[.int .u64 3,.int .u64 (a:Nat),.int .u64 (b:Nat),.int .u64 (e:Nat),.bool false,.string data,.string more,.slice A n c]) (by simp);have y6:=B3.cell 6;have l6:=B3.lt;clear B3;go_wp2_with fail;refine(HNm.out _).mono ?_;rintro e w4 ⟨rfl,rfl⟩;go_wp2_with fail;go_ret;exact RPost.of HV.out (((Mod.refl _ _).alloc _).trans m3 (by simp))
   ·have ⟨x1,x2⟩:=eq8F g1;replace HV:Hid (fmay _=false):=hide (HV.out.trans (by show(rngs list && (decide (more.size=8) && _))=_;rw[decide_eq_false g1.out,hrg];rfl));clear hrg;go_enter Tryz.func54,Tryz.ntmps54;go_wp2_with fail;refine(HN.out _).mono ?_;rintro e w1 ⟨rfl,rfl⟩;simp only[List.append_eq,List.cons_append,List.nil_append]at *;go_wp2_with fail;refine(HD.out _).mono ?_;rintro e w2 ⟨rfl,rfl⟩;go_wp2_with fail;refine(HRg.out _ (hr.out.new ((Mod.refl [] w).alloc _))).mono ?_;rintro e w3 ⟨rfl,m3⟩;have B3:=m3.blk (Blk.new w 36 #[.int .u64 3,.int .u64 (a:Nat),.int .u64 (b:Nat),.int .u64 (e:Nat),.bool false,.string data,.string more,.slice A n c]) (by simp);have y6:=B3.cell 6;have l6:=B3.lt;clear B3;go_wp2_with fail;go_ret;exact RPost.of HV.out (((Mod.refl _ _).alloc _).trans m3 (by simp))
 ·obtain⟨V,hV⟩:∃V,decide (more.size=16)=V:=⟨_,rfl⟩;have ⟨v1,v2⟩:=eq16V hV;replace HV:Hid (fmay _=(decide (b≤a) && (decide (1≤data.size) && (decide (data.size≤20) && V)))):=hide (HV.out.trans (by rw[←hV];rfl));clear hV;rcases hem (b≤a)with g0 | g0;rcases hem (1≤data.size)with g1 | g1;rcases hem (data.size≤20)with g2 | g2;all_goals
   try have ⟨w0,w1⟩:=le2T g0
   try have ⟨w0,w1⟩:=le2F g0
   try have ⟨w2,w3⟩:=ge1T g1
   try have ⟨w2,w3⟩:=ge1F g1
   try have ⟨w6,w7⟩:=posT (hide g1.out)
   try have ⟨w6,w7⟩:=posF (hide g1.out)
   try have ⟨w4,w5⟩:=le20T g2
   try have ⟨w4,w5⟩:=le20F g2
   (try rw[w1]at HV) <;> (try rw[w3]at HV) <;> (try rw[w5]at HV)
   simp only[Bool.true_and,Bool.false_and]at HV
   go_enter Tryz.func54,Tryz.ntmps54
   go_wp2_with fail
   refine(HN.out _).mono ?_
   rintro e w1 ⟨rfl,rfl⟩
   simp only[List.append_eq,List.cons_append,List.nil_append]at *
   go_wp2_with fail
   refine(HD.out _).mono ?_
   rintro e w2 ⟨rfl,rfl⟩
   go_wp2_with fail
   go_ret
   exact RPost.of HV.out ((Mod.refl _ _).alloc _)
 all_goals
  obtain⟨V,hV,HV⟩:=exV HV
  first | (have q9:true=V:=hV;subst q9) | have ⟨x1,x2⟩:=posV (a:=data.size) hV | have ⟨x1,x2⟩:=eq8V (a:=data.size) hV | have ⟨x1,x2⟩:=le60V (a:=a) hV | have ⟨x1,x2⟩:=addV (a:=a) (b:=data.size) hV | have ⟨x1,x2⟩:=addV (a:=b) (b:=data.size) hV
  clear hV
  go_enter Tryz.func54,Tryz.ntmps54
  go_wp2_with fail
  refine(HN.out _).mono ?_
  rintro e w1 ⟨rfl,rfl⟩
  simp only[List.append_eq,List.cons_append,List.nil_append]at *
  go_wp2_with fail
  refine(HD.out _).mono ?_
  rintro e w2 ⟨rfl,rfl⟩
  go_wp2_with fail
  go_ret
  exact RPost.of HV.out ((Mod.refl _ _).alloc _)
theorem rfmay_any (w:World) (A:Option Addr) (n c:Nat) (f:Fr) (hr:Rngs w A n f.list):
  Calls Tryz.prog 54 #[fval A n c f] w (RPost w (fmay f)):=by
 obtain⟨k,a,b,e,fin,data,more,list⟩:=f;rcases Classical.em (flow ⟨k,a,b,e,fin,data,more,list⟩)with hl | hl
 ·rcases Classical.em (fneed ⟨k,a,b,e,fin,data,more,list⟩)with hn | hn
  ·exact rmay_good w A n c k a b e fin data more list (hide hr) (hide hl) (hide hn)
  ·exact rmay_bad w A n c k a b e fin data more list (hide hr) (hide hl) (hide hn)
 ·exact rmay_low w A n c k a b e fin data more list (hide hr) hl
end Go.Proofs.YtlfjhgamlkbofaaGreatDoor
namespace Go.Proofs.YtlfjhgamlkbofaaGreatDoor
open Go.RowKit Js
theorem r7none_any (w:World) (A:Option Addr) (n c:Nat) (f:Fr) (hr:Rngs w A n f.list):Calls Tryz.prog 53 #[fval A n c f] w (RPost w (fsame f fr0)):=by have HM:=hide ((Mod.refl [] w).alloc (.cells (fcs A n c f) 36));have HC:=hide (rsame_any _ A none n 0 c 0 f fr0 (hr.new HM.out) (Rngs.nil _) _ rfl);clear hr;unfold fval fcs at *;go_enter Tryz.func53,Tryz.ntmps53;go_wp2_with fail;refine HC.out.mono ?_;rintro e w1 ⟨rfl,m⟩;go_wp2_with fail;go_ret;exact⟨rfl,HM.out.trans m (by simp)⟩
theorem r7may_any (w:World) (A:Option Addr) (n c:Nat) (e:Ev) (hr:Rngs w A n e.f.list):Calls Tryz.prog 23 #[evval A n c e] w (RPost w (emay e)):=by
 have HM:=hide ((Mod.refl [] w).alloc (.cells (ecs A n c e) 38));have HN:=hide (fun w' (m:Mod [] w w')=>r7none_any w' A n c e.f (hr.new m));have HF:=hide (fun w' (m:Mod [] w w')=>rfmay_any w' A n c e.f (hr.new m));have HI:=hide (@emay_iff e);have HV:Hid (∀b,fsame e.f fr0=b→EvOk e∨¬EvOk e):=hide (fun _ _=>Classical.em _);clear hr HV;obtain⟨k,s,t,nu,mu,x,f⟩:=e;unfold evval ecs fval fcs at *;dsimp only at *;rcases hem (k < 1)with g0 | g0;rotate_left;rcases hem (15 < k)with g1 | g1;rotate_left;rcases hem (s < 0)with g2 | g2;rotate_left;rcases hem (1 < s)with g3 | g3;rotate_left;rcases hem (4611686018427387904≤t)with g4 | g4;rotate_left;rcases hem (4611686018427387904≤nu)with g5 | g5;rotate_left;rcases hem (4611686018427387904≤mu)with g6 | g6;rotate_left;rcases hem (16384 < x.size)with g7 | g7;rotate_left
 ·have z0:decide (k < 1)=false:=decide_eq_false g0.out;have z1:decide (15 < k)=false:=decide_eq_false g1.out;have z2:decide (s < 0)=false:=decide_eq_false g2.out;have z3:decide (1 < s)=false:=decide_eq_false g3.out;have ⟨z4,y4⟩:=bigF g4;have ⟨z5,y5⟩:=bigF g5;have ⟨z6,y6⟩:=bigF g6;have ⟨z7,y7⟩:=d14F g7;obtain⟨b,hb⟩:∃b,fsame f fr0=b:=⟨_,rfl⟩;obtain⟨q,hq⟩:∃q,fmay f=q:=⟨_,rfl⟩
  have HE:Hid (emay ⟨k,s,t,nu,mu,x,f⟩=(b || (framed k && q))):=hide (by
   have g0:=g0.out;have g1:=g1.out;have g2:=g2.out;have g3:=g3.out;have g4:=g4.out;have g5:=g5.out;have g6:=g6.out;have g7:=g7.out
   rw[←hb,←hq]
   unfold emay Ev.bare
   simp only[decide_eq_true (show 1≤k by omega),decide_eq_true (show k≤15 by omega),decide_eq_true (show 0≤s by omega),decide_eq_true (show s≤1 by omega),decide_eq_true (show t < 4611686018427387904 by omega),decide_eq_true (show nu < 4611686018427387904 by omega),decide_eq_true (show mu < 4611686018427387904 by omega),decide_eq_true (show x.size≤16384 by omega),Bool.true_and]
   (try rfl))
  rw[hb]at HN;rw[hq]at HF;clear hb hq;go_enter Tryz.func23,Tryz.ntmps23;go_wp2_with fail;refine(HN.out _ HM.out).mono ?_;rintro e0 w1 ⟨rfl,m1⟩;have HM1:=hide (HM.out.trans m1 (by simp));have HB1:=hide (m1.blk (Blk.new w 38 (ecs A n c ⟨k,s,t,nu,mu,x,f⟩)) (by simp));unfold ecs at HB1;have hl:=HB1.out.lt;have c0:=HB1.out.cell 0;have c6:=HB1.out.cell 6;have c7:=HB1.out.cell 7;have c8:=HB1.out.cell 8;have c9:=HB1.out.cell 9;have c10:=HB1.out.cell 10;have c11:=HB1.out.cell 11;have c12:=HB1.out.cell 12;have c13:=HB1.out.cell 13;clear m1;cases b with
  | true=>go_wp2_with fail;go_ret;exact RPost.of (by rw[HE.out];rfl) HM1.out
  | false=>
   go_wp2_with fail;refine(HF.out _ HM1.out).mono ?_;rintro e0 w2 ⟨rfl,m2⟩;have HM2:=hide (HM1.out.trans m2 (by simp));have HB2:=hide (m2.blk HB1.out (by simp));have hl:=HB2.out.lt;have c0:=HB2.out.cell 0;clear m2;cases q with
   | false=>go_wp2_with fail;go_ret;exact RPost.of (by rw[HE.out,Bool.and_false];rfl) HM2.out
   | true=>
    have HK:Hid (framed k=(decide (k=2) || decide (k=8) || decide (k=9))):=hide rfl;rcases hem (k=2)with h2 | h2;rotate_left;rcases hem (k=8)with h8 | h8;rotate_left;rcases hem (k=9)with h9 | h9;all_goals
     try have z2:(k==2)=true:=by simpa using h2.out
     try have z2:(k==2)=false:=by simpa using h2.out
     try have z8:(k==8)=true:=by simpa using h8.out
     try have z8:(k==8)=false:=by simpa using h8.out
     try have z9:(k==9)=true:=by simpa using h9.out
     try have z9:(k==9)=false:=by simpa using h9.out
     go_wp2_with fail
     go_ret
     refine RPost.of ?_ HM2.out
     rw[HE.out,HK.out]
     (try simp only[decide_eq_true h2.out]) <;> (try simp only[decide_eq_false h2.out]) <;> (try simp only[decide_eq_true h8.out]) <;> (try simp only[decide_eq_false h8.out]) <;> (try simp only[decide_eq_true h9.out]) <;> (try simp only[decide_eq_false h9.out]) <;> (try simp)
 all_goals
  have HV:Hid (emay ⟨k,s,t,nu,mu,x,f⟩=false):=hide (Bool.eq_false_iff.2 fun h=>by
   have h:=HI.out.1 h
   have h1:=h.k1;have h2:=h.k2;have h3:=h.s1;have h4:=h.s2;have h5:=h.time;have h6:=h.num;have h7:=h.many;have h8:=h.text
   simp only at h1 h2 h3 h4 h5 h6 h7 h8
   first | (have:=g7.out;omega) | (have:=g6.out;omega) | (have:=g5.out;omega) | (have:=g4.out;omega) | (have:=g3.out;omega) | (have:=g2.out;omega) | (have:=g1.out;omega) | (have:=g0.out;omega))
  try have z0:decide (k < 1)=true:=decide_eq_true g0.out
  try have z0:decide (k < 1)=false:=decide_eq_false g0.out
  try have z1:decide (15 < k)=true:=decide_eq_true g1.out
  try have z1:decide (15 < k)=false:=decide_eq_false g1.out
  try have z2:decide (s < 0)=true:=decide_eq_true g2.out
  try have z2:decide (s < 0)=false:=decide_eq_false g2.out
  try have z3:decide (1 < s)=true:=decide_eq_true g3.out
  try have z3:decide (1 < s)=false:=decide_eq_false g3.out
  try have ⟨z4,y4⟩:=bigT g4
  try have ⟨z4,y4⟩:=bigF g4
  try have ⟨z5,y5⟩:=bigT g5
  try have ⟨z5,y5⟩:=bigF g5
  try have ⟨z6,y6⟩:=bigT g6
  try have ⟨z6,y6⟩:=bigF g6
  try have ⟨z7,y7⟩:=d14T g7
  go_enter Tryz.func23,Tryz.ntmps23
  go_wp2_with fail
  go_ret
  exact RPost.of HV.out HM.out
theorem r7num_any (w:World) (n:Nat) (hn:n < 4611686018427387904):Calls Tryz.prog 61 #[.int .u64 (n:Nat)] w fun r w'=>r=.returned (.agg (jnN n).cells)∧Mod [] w w':=by have q:IntKind.i64.wrap (n:Int)=(n:Int):=IntWalk.i64_in _ (by omega);go_enter Tryz.func61,Tryz.ntmps61;go_wp2_with (refine wpList_store_open rfl 43 _ _ rfl rfl _ (jnN n).cells rfl rfl (by kernel_rfl) rfl (by kernel_rfl) ?_;intro w6 m6 b6 s6;have HM:=hide m6;have HB:=hide b6;clear m6 b6 s6);refine bodyPost_ret (results_cell_row rfl _ _ w.heap.size 43 (jnN n).cells (0,0) _ rfl HB.out Tryz.underlying43 rfl (by kernel_rfl)) rfl ?_;exact⟨rfl,HM.out⟩
theorem r7word_any (w:World) (s:ByteArray):Calls Tryz.prog 62 #[.string s] w fun r w'=>r=.returned (.agg (jtN s).cells)∧Mod [] w w':=by go_enter Tryz.func62,Tryz.ntmps62;go_wp2_with (refine wpList_store_open rfl 43 _ _ rfl rfl _ (jtN s).cells rfl rfl (by kernel_rfl) rfl (by kernel_rfl) ?_;intro w6 m6 b6 s6;have HM:=hide m6;have HB:=hide b6;clear m6 b6 s6);refine bodyPost_ret (results_cell_row rfl _ _ w.heap.size 43 (jtN s).cells (0,0) _ rfl HB.out Tryz.underlying43 rfl (by kernel_rfl)) rfl ?_;exact⟨rfl,HM.out⟩
theorem app_many {P:Program} {T e:TypeId} {z:Value} {size bytes:Nat} (hT:P.underlying T=some (.slice e)) (hinfo:(P.info? e).map (fun i=>(i.zero,i.size,i.bytes))=some (some z,size,bytes)) (hzs:z.cells.size=size)
  (w:World) (ty:TypeId) (base:Nat) (v:Value) (n m:Nat) (xs:List Value) (h:w.ownsRow base e size v n xs) (hbase:base≤w.heap.size) (news:List Value) (hnl:news.length=m * size) (hone:∀u∈news,u.oneCell'=true)
  (hb:(n+m) * bytes≤140737488355328) (hb63:n+m < 9223372036854775807) (g:Nat) (hc:∀j u,news[j]? =some u→w.cell? ⟨g,j,none⟩=some u):
  ∃A c w',(Builtin.append_ #[T,T] ty #[v,.slice (some ⟨g,0,none⟩) m m]).run P w=.ok (.slice A (n+m) c) w'∧w'.ownsRow base e size (.slice A (n+m) c) (n+m) (xs++ news)∧Mod v.ownBlock.toList w w'∧
   ((Value.slice A (n+m) c).ownBlock=v.ownBlock∨(Value.slice A (n+m) c).ownBlock=some w.heap.size):=by
 obtain⟨i0,hi,hz0,hz1,hz2⟩:=info_split hinfo;have hsrc:Src P size T (.slice (some ⟨g,0,none⟩) m m) m news w:=Src.ofSlice w hT _ m m _ hnl (fun j u hu=>by have:=hc j u hu;rwa [Addr.add_lit,Nat.zero_add]) hone;obtain⟨v',w',h1,h2,h3,h4⟩:=run_app (P:=P) ty base hi hz1 hzs v n _ h (AppSrc.of_src hT hi hz0 hz1 hsrc) (by simp only[maxLen];omega) (by rw[hz2];exact hb) hbase;obtain⟨A,c,rfl⟩:=owned_slice h2;exact⟨A,c,w',h1,h2,Mod.of_grown h3,h4⟩
section
variable {w w' W:World} {base vb:Nat} {kd:Int} {A B:Option Addr} {c d:Nat} {l:List JN} {ks:List ByteArray}
theorem MS.keys (h:MS w base vb kd A c l B d ks) (hvb:vb < base) (hb:base≤w.heap.size) (hn:ks.length≤1000000) (S:List ByteArray) (hS:S.length≤1000) (zb:Nat) (hz:Blk w zb 9 (S.map Value.string).toArray):
  ∃B' d' w6,(Builtin.append_ #[41,41] 41 #[.slice B ks.length d,.slice (some ⟨zb,0,none⟩) S.length S.length]).run Tryz.prog w=.ok (.slice B' (ks.length+S.length) d') w6∧
   Blk w6 vb 43 (JN.mk kd 0 ⟨#[]⟩ A c l B d ks).cells∧
   MS (w6.setCell ⟨vb,4,none⟩ (.slice B' (ks.length+S.length) d')) base vb kd A c l B' d' (ks++ S)∧
   (∀W,Mod [] W w→W.heap.size≤vb→Mod [] W (w6.setCell ⟨vb,4,none⟩ (.slice B' (ks.length+S.length) d')))∧Mod (Value.slice B ks.length d).ownBlock.toList w w6∧(∀k,(Value.slice B' (ks.length+S.length) d').ownBlock=some k→(Value.slice B ks.length d).ownBlock=some k∨k=w.heap.size):=by
 obtain⟨B',d',w6,h1,h2,h3,h4⟩:=app_many (P:=Tryz.prog) Tryz.underlying41 strInfo rfl w 41 base _ _ S.length _ h.ko hb (S.map Value.string) (by simp) (by simp[Value.oneCell']) (by omega) (by omega) zb (fun j u hu=>by rw[hz.cell j,List.getElem?_toArray,hu]);have own:∀k∈(Value.slice B ks.length d).ownBlock.toList,base≤k:=fun k hk=>(by rw[Option.mem_toList]at hk;exact(h.ko.lt k hk).1);have hv6:Blk w6 vb 43 (JN.mk kd 0 ⟨#[]⟩ A c l B d ks).cells:=h3.blk h.v (fun hk=>by have:=own _ hk;omega);have hl:(ks++ S).length=ks.length+S.length:=List.length_append;refine⟨B',d',w6,h1,hv6,⟨?_,?_,?_,fun x hx=> ?_⟩,fun W hF hW=> ?_,h3,fun k hk=>h4.imp (fun h=>h.symm.trans hk) (fun h=>by rw[h]at hk;exact(Option.some.inj hk).symm)⟩
 ·have:=hv6.set_ 4 (.slice B' (ks.length+S.length) d');show Blk _ vb 43 #[.int .i64 kd,.int .i64 0,.string ⟨#[]⟩,.slice A l.length c,.slice B' (ks++ S).length d'];rw[hl];exact this
 ·have hl6:=h3.own h.lo (fun k hk hm=>h.apart k hk (by rw[Option.mem_toList]at hm;exact hm));exact own_far hl6 (fun k hk=>by have:=(h.lo.lt k hk).1;show k≠vb;omega) _
 ·rw[hl,List.map_append];refine own_far h2 (fun k hk=> ?_) _;have:=(h2.lt k hk).1;show k≠vb;omega
 ·obtain⟨a,b⟩:=h.inn x hx;have m:Mod ((Value.slice B ks.length d).ownBlock.toList++ [vb]) w (w6.setCell ⟨vb,4,none⟩ (.slice B' (ks.length+S.length) d')):=(h3.mono (fun y hy=> .inl (by simp only[List.mem_append];exact .inl hy))).setCell (p:=⟨vb,4,none⟩) (.inl (by simp)) _;refine⟨JIn.mod m (fun g hg hm=> ?_) a,fun g hg=> ?_⟩
  ·obtain⟨b1,b2,b3,b4⟩:=b g hg;simp only[List.mem_append,Option.mem_toList,List.mem_singleton]at hm;rcases hm with hm | hm
   ·exact b4 hm
   ·omega
  ·obtain⟨b1,b2,b3,b4⟩:=b g hg;refine⟨b1,Nat.lt_of_lt_of_le b2 m.size,b3,?_⟩;rw[hl];rcases h4 with h4 | h4
   ·rw[h4];exact b4
   ·rw[h4];intro e;cases e;omega
 ·exact(hF.trans h3 (fun y hy=> .inr (by have:=own y hy;omega))).setCell (.inr hW) _
theorem MS.vals (h:MS w base vb kd A c l B d ks) (hvb:vb < base) (hb:base≤w.heap.size) (hn:l.length≤1000000) (xs:List JN) (hX:xs.length≤1000)
  (hx:∀x∈xs,JIn w x∧∀g∈JFoot x,base≤g∧g < w.heap.size∧(Value.slice A l.length c).ownBlock≠some g∧(Value.slice B ks.length d).ownBlock≠some g) (zb:Nat) (hz:Blk w zb 43 (jlcells xs).toArray):
  ∃A' c' w6,(Builtin.append_ #[40,40] 40 #[.slice A l.length c,.slice (some ⟨zb,0,none⟩) xs.length xs.length]).run Tryz.prog w=.ok (.slice A' (l.length+xs.length) c') w6∧
   Blk w6 vb 43 (JN.mk kd 0 ⟨#[]⟩ A c l B d ks).cells∧
   MS (w6.setCell ⟨vb,3,none⟩ (.slice A' (l.length+xs.length) c')) base vb kd A' c' (l++ xs) B d ks∧
   (∀W,Mod [] W w→W.heap.size≤vb→Mod [] W (w6.setCell ⟨vb,3,none⟩ (.slice A' (l.length+xs.length) c')))∧Mod (Value.slice A l.length c).ownBlock.toList w w6:=by
 obtain⟨A',c',w6,h1,h2,h3,h4⟩:=app_many (P:=Tryz.prog) Tryz.underlying40 valInfo rfl w 40 base _ _ xs.length _ h.lo hb (jlcells xs) (lcells_len xs) (by
   intro u hu
   unfold jlcells at hu
   obtain⟨x,_,hu⟩:=List.mem_flatMap.1 hu
   cases x
   simp[JN.cells]at hu
   rcases hu with rfl | rfl | rfl | rfl | rfl <;> rfl) (by omega) (by omega) zb (fun j u hu=>by
  rw[hz.cell j,List.getElem?_toArray,hu])
 have own:∀k∈(Value.slice A l.length c).ownBlock.toList,base≤k:=fun k hk=>(by rw[Option.mem_toList]at hk;exact(h.lo.lt k hk).1);have hv6:Blk w6 vb 43 (JN.mk kd 0 ⟨#[]⟩ A c l B d ks).cells:=h3.blk h.v (fun hk=>by have:=own _ hk;omega);have hl:(l++ xs).length=l.length+xs.length:=List.length_append;have m:Mod ((Value.slice A l.length c).ownBlock.toList++ [vb]) w (w6.setCell ⟨vb,3,none⟩ (.slice A' (l.length+xs.length) c')):=(h3.mono (fun y hy=> .inl (by simp only[List.mem_append];exact .inl hy))).setCell (p:=⟨vb,3,none⟩) (.inl (by simp)) _;have inn:∀x,JIn w x→(∀g∈JFoot x,base≤g∧g < w.heap.size∧(Value.slice A l.length c).ownBlock≠some g∧(Value.slice B ks.length d).ownBlock≠some g)→JIn (w6.setCell ⟨vb,3,none⟩ (.slice A' (l.length+xs.length) c')) x∧∀g∈JFoot x,base≤g∧g < (w6.setCell ⟨vb,3,none⟩ (.slice A' (l.length+xs.length) c')).heap.size∧(Value.slice A' (l++ xs).length c').ownBlock≠some g∧(Value.slice B ks.length d).ownBlock≠some g:=by
  intro x a b;refine⟨JIn.mod m (fun g hg hm=> ?_) a,fun g hg=> ?_⟩
  ·obtain⟨b1,b2,b3,b4⟩:=b g hg;simp only[List.mem_append,Option.mem_toList,List.mem_singleton]at hm;rcases hm with hm | hm
   ·exact b3 hm
   ·omega
  ·obtain⟨b1,b2,b3,b4⟩:=b g hg;refine⟨b1,Nat.lt_of_lt_of_le b2 m.size,?_,b4⟩;rw[hl];rcases h4 with h4 | h4
   ·rw[h4];exact b3
   ·rw[h4];intro e;cases e;omega
 refine⟨A',c',w6,h1,hv6,⟨?_,?_,?_,fun x hx'=> ?_⟩,fun W hF hW=> ?_,h3⟩
 ·have:=hv6.set_ 3 (.slice A' (l.length+xs.length) c');show Blk _ vb 43 #[.int .i64 kd,.int .i64 0,.string ⟨#[]⟩,.slice A' (l++ xs).length c',.slice B ks.length d];rw[hl];exact this
 ·rw[hl];have e:jlcells (l++ xs)=jlcells l++ jlcells xs:=(by unfold jlcells;exact List.flatMap_append);rw[e];refine own_far h2 (fun k hk=> ?_) _;have:=(h2.lt k hk).1;show k≠vb;omega
 ·have hk6:=h3.own h.ko (fun k hk hm=>h.apart k (by rw[Option.mem_toList]at hm;exact hm) hk);exact own_far hk6 (fun k hk=>by have:=(h.ko.lt k hk).1;show k≠vb;omega) _
 ·rcases List.mem_append.1 hx' with hx' | hx'
  ·exact inn x (h.inn x hx').1 (h.inn x hx').2
  ·exact inn x (hx x hx').1 (hx x hx').2
 ·exact(hF.trans h3 (fun y hy=> .inr (by have:=own y hy;omega))).setCell (.inr hW) _
end
def rwh (v:JV):Nat:=if v.k=3∧0≤v.i then v.i.toNat else 4611686018427387904
def rpair (x:JV):Nat×Nat:=(rwh (jat x 0),rwh (jat x 1))
def rfrm (f:JV):Fr:=⟨rwh (jat f 0),rwh (jat f 1),rwh (jat f 2),rwh (jat f 3),decide ((jat f 4).k=2),(jat f 5).t,(jat f 6).t,(jat f 7).l.map rpair⟩
def rsmall (v:JV):Bool:=decide (rwh (jat v 0) < 100) && decide (rwh (jat v 2) < 100)
def rev0 (v:JV) (f:Fr):Ev:=⟨if rsmall v then(rwh (jat v 0):Int)else 0,if rsmall v then(rwh (jat v 2):Int)else 0,rwh (jat v 1),rwh (jat v 3),rwh (jat v 4),(jat v 5).t,f⟩
def rev (v:JV):Option Ev:=if v.l.length < 6∨7 < v.l.length then none else if v.l.length=7 then
  (if(jat v 6).l.length≠8∨(jat (jat v 6) 7).l.any (fun x=>decide (x.l.length≠2))=true then none else some (rev0 v (rfrm (jat v 6))))else some (rev0 v fr0)
def r7of (v:JV):Option Ev:=match rev v with
 | none=>none
 | some e=>if emay e && jsame (evalue e) v then some e else none
theorem rwh_jn (n:Nat):rwh (jn n)=n:=by unfold rwh jn JV.k JV.i;simp
theorem rev_value {e:Ev} (h:emay e=true):rev (evalue e)=some e:=by
 have ho:=emay_iff.1 h;have hk:((e.kind.toNat:Nat):Int)=e.kind:=by have:=ho.k1;omega
 have hs:((e.space.toNat:Nat):Int)=e.space:=by have:=ho.s1;omega
 have hsm:∀x:JV,jat x 0=jn e.kind.toNat→jat x 2=jn e.space.toNat→rsmall x=true:=(by intro x h0 h2;unfold rsmall;rw[h0,h2,rwh_jn,rwh_jn];have:=ho.k2;have:=ho.s2;simp;omega);cases hb:e.bare with
 | true=>have hf:=Ev.bare_iff.1 hb;have hv:evalue e=.mk 6 0 ⟨#[]⟩ [jn e.kind.toNat,jn e.time,jn e.space.toNat,jn e.num,jn e.many,jt e.text] ekeys:=(by unfold evalue;rw[hb];rfl);rw[hv];unfold rev;rw[if_neg (by simp[JV.l]),if_neg (by simp[JV.l])];unfold rev0;rw[hsm _ rfl rfl];simp only[jat,JV.l,List.getD_cons_zero,List.getD_cons_succ,if_true,rwh_jn];rw[hk,hs];obtain⟨k,s,t,n,m,x,f⟩:=e;simp only at hf;rw[hf];rfl
 | false=>have hfo:=fmay_ok (bare_may h hb);have hv:evalue e=.mk 6 0 ⟨#[]⟩ [jn e.kind.toNat,jn e.time,jn e.space.toNat,jn e.num,jn e.many,jt e.text,jfr e.f] (ekeys++ [fkey]):=(by unfold evalue;rw[hb];rfl);rw[hv];unfold rev;rw[if_neg (by simp[JV.l]),if_pos (by simp[JV.l]),if_neg (by simp only[jat,JV.l,List.getD_cons_zero,List.getD_cons_succ,jfr];simp[jr,JV.l])];unfold rev0;rw[hsm _ rfl rfl];simp only[jat,JV.l,List.getD_cons_zero,List.getD_cons_succ,if_true,rwh_jn];rw[hk,hs];obtain⟨k,s,t,n,m,x,⟨fk,fa,fb,fc,fin,fd,fm,fl⟩⟩:=e;have hl:(fl.map jr).map rpair=fl:=(by rw[List.map_map];refine(List.map_congr_left (g:=id) fun r hr=> ?_).trans (List.map_id fl);show(rwh (jn r.1),rwh (jn r.2))=r;rw[rwh_jn,rwh_jn]);have hfin:decide ((jb fin).k=2)=fin:=(by cases fin <;> rfl);unfold rfrm jfr;simp only[jat,JV.l,List.getD_cons_zero,List.getD_cons_succ,rwh_jn,hl,hfin];rfl
theorem r7of_eq (v:JV):r7of v=eof v:=by
 have key:∀e,r7of v=some e→eof v=some e:=fun e h=>by
  unfold r7of at h;cases hr:rev v with
  | none=>rw[hr]at h;cases h
  | some e'=>
   rw[hr]at h;simp only at h
   split at h
   ·rename_i hc;rw[Bool.and_eq_true]at hc;cases h;rw[←(jsame_iff _ _).1 hc.2];exact eof_value hc.1
   ·cases h
 cases he:eof v with
 | some e=>obtain⟨h1,h2,_⟩:=eof_eq he;unfold r7of;rw[←h1,rev_value h2];simp only;rw[if_pos (by rw[h2,(jsame_iff _ _).2 rfl];rfl)]
 | none=>
  cases hr:r7of v with
  | none=>rfl
  | some e=>rw[key e hr]at he;cases he
end Go.Proofs.YtlfjhgamlkbofaaGreatDoor
namespace Go.Proofs.YtlfjhgamlkbofaaGreatDoor
open Go.RowKit Js Go.Sort
def RSameF (n:Nat):Prop:=∀(w:World) (x y:JN),x.sz≤n→JIn w x→JIn w y→∀b,jsame x.v y.v=b→
 Calls Tryz.prog 31 #[.agg x.cells,.agg y.cells] w fun e w'=>e=.returned (.bool b)∧Mod [] w w'
theorem ieT {a b:Int} (h:Hid (a=b)):(a !=b)=false:=by rw[h.out];simp
theorem ieF {a b:Int} (h:Hid (¬a=b)):(a !=b)=true:=by simpa using h.out
theorem neT {a b:Nat} (h:Hid (a=b)):((a:Int) !=b)=false∧(a !=b)=false:=by rw[h.out];simp
theorem neF {a b:Nat} (h:Hid (¬a=b)):((a:Int) !=b)=true∧(a !=b)=true:=by have:=h.out;simp;omega
theorem txT {a b:ByteArray} (h:Hid (a=b)):(a.toList==b.toList)=true:=by rw[toList_dec];exact decide_eq_true h.out
theorem txF {a b:ByteArray} (h:Hid (¬a=b)):(a.toList==b.toList)=false:=by rw[toList_dec];exact decide_eq_false h.out
theorem JN.opn5 (x:JN):∃A c n B d m,x.cells= #[.int .i64 x.v.k,.int .i64 x.v.i,.string x.v.t,.slice A n c,.slice B m d]∧n=x.v.l.length∧m=x.v.ks.length:=by
 cases x with
 | mk k i t A c l B d ks=>exact⟨A,c,l.length,B,d,ks.length,by rw[JN.v];rfl,by rw[JN.v];exact(JN.vs_len l).symm,by rw[JN.v];rfl⟩
theorem jsames_at:∀(l m:List JV) (i:Nat) (x y:JV),l.length=m.length→l[i]? =some x→m[i]? =some y→jsame x y=false→jsames l m=false:=by
 intro l m i x y hl hx hy h;cases hb:jsames l m with
 | false=>rfl
 | true=>have:=(jsames_iff l m).1 hb;subst this;rw[hx]at hy;cases hy;rw[(jsame_iff x x).2 rfl]at h;cases h
theorem rsamef_step (N:Nat) (hS:RSameF N):RSameF (N+1):=by
 intro w x y hsz hx hy b hb;obtain⟨xk,xi,xt,xA,xc,xl,xB,xd,xs⟩:=x;obtain⟨yk,yi,yt,yA,yc,yl,yB,yd,ys⟩:=y;rw[JIn]at hx hy;rw[JN.sz]at hsz;rw[JN.v,JN.v,jsame]at hb;obtain⟨⟨hx1,hx2,_⟩,hx3,hx4,hx5⟩:=hx;obtain⟨⟨hy1,hy2,_⟩,hy3,hy4,hy5⟩:=hy;unfold jmax at hx1 hx2;obtain⟨n,hn⟩:∃n,xl.length=n:=⟨_,rfl⟩;obtain⟨m,hm⟩:∃m,xs.length=m:=⟨_,rfl⟩;obtain⟨n',hn'⟩:∃n,yl.length=n:=⟨_,rfl⟩;obtain⟨m',hm'⟩:∃m,ys.length=m:=⟨_,rfl⟩;have HN:=hide hn;have HN2:=hide hn';have HMm:=hide hm;have HMm2:=hide hm';have HKx:=hide hx3;have HKy:=hide hy3;have HRx:=hide hx4;have HRy:=hide hy4;have HIx:=hide hx5;have HIy:=hide hy5;have HS:=hide hS;have HB:=hide hb;have HSz:Hid (JN.szs xl≤N):=hide (by omega);have HNo:Hid (¬(xk=yk∧xi=yi∧xt=yt∧n=n'∧m=m'∧xs=ys∧jsames (JN.vs xl) (JN.vs yl)=true)→b=false):=hide (fun h=>by rw[←hb];refine Bool.eq_false_iff.2 fun h2=>h ?_;simp only[Bool.and_eq_true,decide_eq_true_eq]at h2;obtain⟨⟨⟨⟨a1,a2⟩,a3⟩,a4⟩,a5⟩:=h2;have:=congrArg List.length ((jsames_iff _ _).1 a5);rw[JN.vs_len,JN.vs_len]at this;exact⟨a1,a2,a3,by omega,by rw[←hm,←hm',a4],a4,a5⟩);simp only[JN.cells];rw[hn,hn',hm,hm'];rw[hn]at hx1;rw[hm]at hx2;clear hx3 hx4 hx5 hy3 hy4 hy5 hy1 hy2 hn hm hn' hm' hS hsz hb;have HM0:=hide (((Mod.refl [] w).alloc (.cells #[.int .i64 xk,.int .i64 xi,.string xt,.slice xA n xc,.slice xB m xd] 43)).alloc (.cells #[.int .i64 yk,.int .i64 yi,.string yt,.slice yA n' yc,.slice yB m' yd] 43));rcases hem (xk=yk)with h0 | h0;rcases hem (xi=yi)with h1 | h1;rcases hem (xt=yt)with h2 | h2;rcases hem (n=n')with h3 | h3;rcases hem (m=m')with h4 | h4
 ·obtain rfl:=h3.out;obtain rfl:=h4.out;have HX0:=hide ((Blk.new w 43 #[.int .i64 xk,.int .i64 xi,.string xt,.slice xA n xc,.slice xB m xd]).alloc (.cells #[.int .i64 yk,.int .i64 yi,.string yt,.slice yA n yc,.slice yB m yd] 43));have hY0:=Blk.new (w.alloc (.cells #[.int .i64 xk,.int .i64 xi,.string xt,.slice xA n xc,.slice xB m xd] 43)) 43 #[.int .i64 yk,.int .i64 yi,.string yt,.slice yA n yc,.slice yB m yd];rw[World.size_alloc]at hY0;have HY0:=hide hY0;have k1:=ieT h0;have k2:=ieT h1;have k3:=txT h2;have HT:=h2;have ⟨k4,k4'⟩:=neT h3;have ⟨k5,k5'⟩:=neT h4;clear hY0;go_enter Tryz.func31,Tryz.ntmps31;go_wp2_with fail;clear k1 k2 k3;go_loopw [5] (fun iv wr=>∃i:Nat,i≤m∧iv=.int .i64 (i:Int)∧Hid (xs.take i=ys.take i)∧Hid (Mod [] w wr)∧Hid (Blk wr w.heap.size 43 #[.int .i64 xk,.int .i64 xi,.string xt,.slice xA n xc,.slice xB m xd])∧Hid (Blk wr (w.heap.size+1) 43 #[.int .i64 yk,.int .i64 yi,.string yt,.slice yA n yc,.slice yB m yd])) (fun iv _=>m - (intOf iv).toNat)
  case atStart=>exact⟨0,by omega,rfl,hide rfl,HM0,HX0,HY0⟩
  case round=>
   obtain⟨i,hi,rfl,htk,hmi,hbx,hby⟩:=hrel;have x4:wr.cell? ⟨w.heap.size,4,none⟩=some (.slice xB m xd):=hbx.out.cell 4;by_cases h2:i < m
   ·obtain⟨u,hu⟩:∃u,xs[i]? =some u:=⟨_,List.getElem?_eq_getElem (by have:=HMm.out;omega)⟩;obtain⟨v,hv⟩:∃v,ys[i]? =some v:=⟨_,List.getElem?_eq_getElem (by have:=HMm2.out;omega)⟩;obtain⟨g,o,rfl,hg,hc⟩:=(HKx.out.new hmi.out).at_ hu;obtain⟨g',o',rfl,hg',hc'⟩:=(HKy.out.new hmi.out).at_ hv;have y4:wr.cell? ⟨w.heap.size+1,4,none⟩=some (.slice (some ⟨g',o',none⟩) m yd):=hby.out.cell 4;have hii:(i:Int) < (m:Int):=(by omega);have a1:IntKind.i64.wrap ((i:Int)+1)=(i:Int)+1:=IntWalk.i64_in _ (by omega);have HU:=hide hu;have HV:=hide hv;clear hu hv h2;rcases hem (u=v)with huv | huv
    ·have g3:=txT huv;go_wp2_with fail;go_quiet (fail);go_wp2_with fail;refine⟨?rel,?measure⟩
     case rel=>exact⟨i+1,by omega,by go_num,hide (by rw[take_snoc HU.out,take_snoc HV.out,htk.out,huv.out]),hide (hmi.out.drewN nq),hide (by exact hbx.out),hide (by exact hby.out)⟩
     case measure=>simp[intOf];omega
    ·have g3:=txF huv;obtain rfl:b=false:=HNo.out (fun h=>huv.out (Option.some.inj (HU.out.symm.trans ((congrArg (fun l:List ByteArray=>l[i]?) h.2.2.2.2.2.1).trans HV.out))));go_wp2_with fail;go_quiet (fail);go_wp2_with fail;go_ret;exact⟨rfl,hmi.out.drewN nq⟩
   ·have hii:decide ((i:Int) < (m:Int))=false:=decide_eq_false (by omega);have hiin:decide (i < m)=false:=decide_eq_false (by omega);have HKs:Hid (xs=ys):=hide (by have h:=htk.out;rwa [List.take_of_length_le (by have:=HMm.out;omega),List.take_of_length_le (by have:=HMm2.out;omega)]at h);clear h2;go_wp2_with fail;obtain⟨wb,HWB⟩:∃wb:World,wb=wr:=⟨_,rfl⟩;subst HWB;go_loopw [6] (fun iv wr=>∃j:Nat,j≤n∧iv=.int .i64 (j:Int)∧Hid (JN.vs (xl.take j)=JN.vs (yl.take j))∧Hid (Mod [] w wr)∧Hid (Blk wr w.heap.size 43 #[.int .i64 xk,.int .i64 xi,.string xt,.slice xA n xc,.slice xB m xd])∧Hid (Blk wr (w.heap.size+1) 43 #[.int .i64 yk,.int .i64 yi,.string yt,.slice yA n yc,.slice yB m yd])) (fun iv _=>n - (intOf iv).toNat)
    case atStart=>exact⟨0,by omega,rfl,hide rfl,hmi,hbx,hby⟩
    case round=>
     obtain⟨j,hj,rfl,htj,hmj,hbx,hby⟩:=hrel;have x3:wr.cell? ⟨w.heap.size,3,none⟩=some (.slice xA n xc):=hbx.out.cell 3;by_cases h2:j < n
     ·obtain⟨u,hu⟩:∃u,xl[j]? =some u:=⟨_,List.getElem?_eq_getElem (by have:=HN.out;omega)⟩;obtain⟨v,hv⟩:∃v,yl[j]? =some v:=⟨_,List.getElem?_eq_getElem (by have:=HN2.out;omega)⟩;obtain⟨q,hq⟩:∃q,jsame u.v v.v=q:=⟨_,rfl⟩;have HQ:=hide hq;have HU:=hide hu;have HV:=hide hv;obtain⟨g,o,rfl,hg,hc⟩:=(HRx.out.new hmj.out).at_ hu;obtain⟨g',o',rfl,hg',hc'⟩:=(HRy.out.new hmj.out).at_ hv;have hui:=(HIx.out.at_ hu).new hmj.out;have hvi:=(HIy.out.at_ hv).new hmj.out;have husz:u.sz≤N:=by have:=JN.szs_mem (List.mem_of_getElem? hu);have:=HSz.out;omega
      have cS:∀d os,Calls Tryz.prog 31 #[.agg u.cells,.agg v.cells] (grow (redrawn wr d) os) fun e w''=>e=.returned (.bool q)∧∃p:Regrown,w''=grow (redrawn wr p.d) p.os:=fun d os=>by have mg:Mod [] wr (grow (redrawn wr d) os):=Mod.of_below (below_regrown wr d os);exact Calls.regrown_of ((HS.out _ u v husz (hui.new mg) (hvi.new mg) q hq).mono fun _ _ h=>⟨h.1,h.2.below (Nat.le_refl _) (by simp)⟩)
      have CS:=hide cS;obtain⟨uA,uc,un,uB,ud,um,hcu, -, -⟩:=u.opn5;generalize u.v.k=uk at hcu;generalize u.v.i=ui at hcu;generalize u.v.t=ut at hcu;obtain⟨zA,zc,zn,zB,zd,zm,hcz, -, -⟩:=v.opn5;generalize v.v.k=zk at hcz;generalize v.v.i=zi at hcz;generalize v.v.t=zt at hcz;rw[hcu,hcz]at CS;rw[hcu]at hc;rw[hcz]at hc';have u0:∀d os,(grow (redrawn wr d) os).cell? ⟨g,o+j * 5,none⟩=some (.int .i64 uk):=cell_regrown (hc 0 _ rfl);have u1:∀d os,(grow (redrawn wr d) os).cell? ⟨g,o+j * 5+1,none⟩=some (.int .i64 ui):=cell_regrown (hc 1 _ rfl);have u2:∀d os,(grow (redrawn wr d) os).cell? ⟨g,o+j * 5+2,none⟩=some (.string ut):=cell_regrown (hc 2 _ rfl);have u3:∀d os,(grow (redrawn wr d) os).cell? ⟨g,o+j * 5+3,none⟩=some (.slice uA un uc):=cell_regrown (hc 3 _ rfl);have u4:∀d os,(grow (redrawn wr d) os).cell? ⟨g,o+j * 5+4,none⟩=some (.slice uB um ud):=cell_regrown (hc 4 _ rfl);have z0:∀d os,(grow (redrawn wr d) os).cell? ⟨g',o'+j * 5,none⟩=some (.int .i64 zk):=cell_regrown (hc' 0 _ rfl);have z1:∀d os,(grow (redrawn wr d) os).cell? ⟨g',o'+j * 5+1,none⟩=some (.int .i64 zi):=cell_regrown (hc' 1 _ rfl);have z2:∀d os,(grow (redrawn wr d) os).cell? ⟨g',o'+j * 5+2,none⟩=some (.string zt):=cell_regrown (hc' 2 _ rfl);have z3:∀d os,(grow (redrawn wr d) os).cell? ⟨g',o'+j * 5+3,none⟩=some (.slice zA zn zc):=cell_regrown (hc' 3 _ rfl);have z4:∀d os,(grow (redrawn wr d) os).cell? ⟨g',o'+j * 5+4,none⟩=some (.slice zB zm zd):=cell_regrown (hc' 4 _ rfl);have x3r:=cell_regrown x3;have y3:=cell_regrown (show wr.cell? ⟨w.heap.size+1,3,none⟩=some (.slice (some ⟨g',o',none⟩) n yc)from hby.out.cell 3);have hii:(j:Int) < (n:Int):=(by omega);have a1:IntKind.i64.wrap ((j:Int)+1)=(j:Int)+1:=IntWalk.i64_in _ (by omega);clear hq hu hv hui hvi husz cS hc hc' hcu hcz h2;go_wp2_with fail;refine wp_region_below (by kernel_rfl) (by kernel_rfl) (by kernel_rfl) ?_;(repeat (go_big_quiet_step (with_reducible exact CS.out _ _)));refine wpQuiet_nil ?_;intro _ hw';obtain⟨⟨dq,osq⟩,hw''⟩:=hw';subst hw'';have mg:Mod [] wr (grow (redrawn wr dq) osq):=Mod.of_below (below_regrown wr dq osq);have HMi:=hide (hmj.out.trans mg (by simp));have HBx:=hide (mg.blk hbx.out (by simp));have HBy:=hide (mg.blk hby.out (by simp));clear mg;cases q with
      | true=>
       go_wp2_with fail;refine⟨?rel,?measure⟩
       case rel=>exact⟨j+1,by omega,by go_num,hide (by rw[take_snoc HU.out,take_snoc HV.out,JN.vs_app,JN.vs_app,htj.out];exact congrArg (fun z=>JN.vs (yl.take j)++ [z]) ((jsame_iff _ _).1 HQ.out)),HMi,HBx,HBy⟩
       case measure=>simp[intOf];omega
      | false=>obtain rfl:b=false:=HNo.out (fun h=>by have:=jsames_at (JN.vs xl) (JN.vs yl) j u.v v.v (by rw[JN.vs_len,JN.vs_len,HN.out,HN2.out]) (by rw[JN.vs_at,HU.out];rfl) (by rw[JN.vs_at,HV.out];rfl) HQ.out;rw[h.2.2.2.2.2.2]at this;cases this);go_wp2_with fail;go_ret;exact⟨rfl,HMi.out⟩
     ·have hii:decide ((j:Int) < (n:Int))=false:=decide_eq_false (by omega);have hiin:decide (j < n)=false:=decide_eq_false (by omega);obtain rfl:b=true:=by have h:=htj.out;rw[List.take_of_length_le (by have:=HN.out;omega),List.take_of_length_le (by have:=HN2.out;omega)]at h;rw[←HB.out,(jsames_iff _ _).2 h,decide_eq_true h0.out,decide_eq_true h1.out,decide_eq_true HT.out,decide_eq_true HKs.out];rfl
      clear h2;go_wp2_with fail;go_ret;exact⟨rfl,hmj.out⟩
 all_goals
  obtain rfl:b=false:=HNo.out (by first | exact fun h=>h0.out h.1 | exact fun h=>h1.out h.2.1 | exact fun h=>h2.out h.2.2.1 | exact fun h=>h3.out h.2.2.2.1 | exact fun h=>h4.out h.2.2.2.2.1)
  first | have k1:=ieT h0 | have k1:=ieF h0
  try have k2:=ieT h1
  try have k2:=ieF h1
  try have k3:=txT h2
  try have k3:=txF h2
  try have ⟨k4,k4'⟩:=neT h3
  try have ⟨k4,k4'⟩:=neF h3
  try have ⟨k5,k5'⟩:=neF h4
  go_enter Tryz.func31,Tryz.ntmps31
  go_wp2_with fail
  go_ret
  exact⟨rfl,HM0.out⟩
theorem rsamef_all:∀n,RSameF n
 | 0=>fun w x y h=>by cases x;rw[JN.sz]at h;omega
 | n+1=>rsamef_step n (rsamef_all n)
theorem rsamef_any (w:World) (x y:JN) (hx:JIn w x) (hy:JIn w y) (b:Bool) (hb:jsame x.v y.v=b):Calls Tryz.prog 31 #[.agg x.cells,.agg y.cells] w fun e w'=>e=.returned (.bool b)∧Mod [] w w':=
 rsamef_all x.sz w x y (Nat.le_refl _) hx hy b hb
end Go.Proofs.YtlfjhgamlkbofaaGreatDoor
