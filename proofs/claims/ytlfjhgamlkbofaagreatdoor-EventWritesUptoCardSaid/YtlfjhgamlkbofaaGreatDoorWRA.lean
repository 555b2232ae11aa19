/-
  Contracts of the functions that the laws of this seat reach, and plain laws, part 14 of 17; no condition.
-/
import Derived.Test.YtlfjhgamlkbofaaGreatDoorWF1
import Derived.Test.YtlfjhgamlkbofaaGreatDoorWC
import Derived.Outline
import Derived.Deep.Cut
set_option linter.unusedVariables false
set_option linter.unusedSimpArgs false
set_option linter.unnecessarySimpa false
set_option maxRecDepth 100000
set_option maxHeartbeats 16000000
namespace Go.Proofs.YtlfjhgamlkbofaaGreatDoor
open Go.RowKit
def x07 (s:List UInt8):Option (Nat×List UInt8):=if(q35 s).e=0 then some ((q35 s).n,(q35 s).rest)else none
def zs0:Nat→List UInt8→Option (List Nat×List UInt8)
 | 0,s=>some ([],s)
 | n+1,s=>(x07 s).bind fun x=>(zs0 n x.2).map fun y=>(x.1 ::y.1,y.2)
def ql0 (k:Nat):Option Nat:=
 if k=5∨k=8∨k=17∨k=21∨k=24∨k=28 then some 2
 else if k=1∨k=7∨k=26∨k=27∨k=30 then some 0
 else if k=0∨k=2∨k=6∨k=16∨k=18∨k=19∨k=20∨k=22∨k=23∨k=25∨k=29 then some 1
 else if k=3∨k=4 then some 3
 else none
def q98 (k:Nat):Bool:=decide (k=6) || decide (k=7) || decide (k=8) || decide (k=24) || decide (k=26) || decide (k=27) || decide (k=28) || decide (k=29)
def hrng:Nat→Nat→List UInt8→Option (List (Nat×Nat)×List UInt8)
 | 0,_,s=>some ([],s)
 | k+1,low,s=>(zs0 2 s).bind fun x=>if low < x.1.getD 0 0+2∨low - x.1.getD 0 0 - 2 < x.1.getD 1 0 then none else
   (hrng k (low - x.1.getD 0 0 - 2 - x.1.getD 1 0) x.2).map fun y=>((low - x.1.getD 0 0 - 2 - x.1.getD 1 0,low - x.1.getD 0 0 - 2) ::y.1,y.2)
def zx5 (k:Nat):Nat:=if 8≤k∧k≤15 then 8 else k
theorem qz3 {k : Nat} {s : Shp} (h : q16 k = some s) : ql0 k = some s.n ∧ zx5 k = k ∧ ¬ (8 ≤ k ∧ k ≤ 15) ∧ k ≠ 0 ∧ k ≠ 2 ∧ k ≠ 3 ∧ k ≠ 24 ∧ (s.t = true → s.x = 0 ∧ q98 k = true ∧ k ≠ 26 ∧ k ≠ 27) ∧ (0 < s.x → s.t = false ∧ s.x = 8 ∧ (k = 26 ∨ k = 27)) ∧ (s.t = false → s.x = 0 → q98 k = false ∧ k ≠ 26 ∧ k ≠ 27) := by
  unfold q16 at h
  repeat' split at h
  all_goals first
    | (cases h; done)
    | (rename_i hk
       cases h
       rcases hk with rfl | rfl | rfl | rfl | rfl | rfl | rfl <;> decide)
    | (rename_i hk
       cases h
       rcases hk with rfl | rfl | rfl <;> decide)
    | (rename_i hk
       cases h
       rcases hk with rfl | rfl <;> decide)
    | (rename_i hk
       cases h
       subst hk
       decide)
def q69 (k:Nat):Int:=match ql0 k with
 | some n=>(n:Nat)
 | none=> -1
theorem qv5 {k:Nat} (h:¬(k=5∨k=8∨k=17∨k=21∨k=24∨k=28∨k=1∨k=7∨k=26∨k=27∨k=30∨k=0∨k=2∨k=6∨k=16∨k=18∨k=19∨k=20∨k=22∨k=23∨k=25∨k=29∨k=3∨k=4)):ql0 k=none:=by unfold ql0;repeat rw[if_neg (by omega)]
theorem qk2 (w:World) (k:Nat):Calls Tryz.prog 91 #[.int .u64 k] w fun e w'=>e=.returned (.int .i64 (q69 k))∧w=w':=by
 by_cases h:k=5∨k=8∨k=17∨k=21∨k=24∨k=28∨k=1∨k=7∨k=26∨k=27∨k=30∨k=0∨k=2∨k=6∨k=16∨k=18∨k=19∨k=20∨k=22∨k=23∨k=25∨k=29∨k=3∨k=4
 ·rcases h with rfl | rfl | rfl | rfl | rfl | rfl | rfl | rfl | rfl | rfl | rfl | rfl | rfl | rfl | rfl | rfl | rfl | rfl | rfl | rfl | rfl | rfl | rfl | rfl;all_goals
   go_enter Tryz.func91,Tryz.ntmps91
   go_wp2_with fail
   go_ret
   exact⟨rfl,rfl⟩
 ·have HN:=q00 (qv5 h);have b5:((k:Int)==5)=false:=(by simp;omega);have b8:((k:Int)==8)=false:=(by simp;omega);have b17:((k:Int)==17)=false:=(by simp;omega);have b21:((k:Int)==21)=false:=(by simp;omega);have b24:((k:Int)==24)=false:=(by simp;omega);have b28:((k:Int)==28)=false:=(by simp;omega);have b1:((k:Int)==1)=false:=(by simp;omega);have b7:((k:Int)==7)=false:=(by simp;omega);have b26:((k:Int)==26)=false:=(by simp;omega);have b27:((k:Int)==27)=false:=(by simp;omega);have b30:((k:Int)==30)=false:=(by simp;omega);have b0:((k:Int)==0)=false:=(by simp;omega);have b2:((k:Int)==2)=false:=(by simp;omega);have b6:((k:Int)==6)=false:=(by simp;omega);have b16:((k:Int)==16)=false:=(by simp;omega);have b18:((k:Int)==18)=false:=(by simp;omega);have b19:((k:Int)==19)=false:=(by simp;omega);have b20:((k:Int)==20)=false:=(by simp;omega);have b22:((k:Int)==22)=false:=(by simp;omega);have b23:((k:Int)==23)=false:=(by simp;omega);have b25:((k:Int)==25)=false:=(by simp;omega);have b29:((k:Int)==29)=false:=(by simp;omega);have b3:((k:Int)==3)=false:=(by simp;omega);have b4:((k:Int)==4)=false:=(by simp;omega);clear h;go_enter Tryz.func91,Tryz.ntmps91;go_wp2_with fail;go_ret;exact⟨by unfold q69;rw[HN.out];rfl,rfl⟩
theorem jt6 {k:Nat} (h:¬(k=6∨k=7∨k=8∨k=24∨k=26∨k=27∨k=28∨k=29)):q98 k=false:=by unfold q98;simp only[Bool.or_eq_false_iff,decide_eq_false_iff_not];omega
theorem j21 (w:World) (k:Nat):Calls Tryz.prog 92 #[.int .u64 k] w fun e w'=>e=.returned (.bool (q98 k))∧w=w':=by
 by_cases h:k=6∨k=7∨k=8∨k=24∨k=26∨k=27∨k=28∨k=29
 ·rcases h with rfl | rfl | rfl | rfl | rfl | rfl | rfl | rfl;all_goals
   go_enter Tryz.func92,Tryz.ntmps92
   go_wp2_with fail
   go_ret
   exact⟨rfl,rfl⟩
 ·have HN:=q00 (jt6 h);have b6:((k:Int)==6)=false:=(by simp;omega);have c6:(k==6)=false:=(by simp;omega);have b7:((k:Int)==7)=false:=(by simp;omega);have c7:(k==7)=false:=(by simp;omega);have b8:((k:Int)==8)=false:=(by simp;omega);have c8:(k==8)=false:=(by simp;omega);have b24:((k:Int)==24)=false:=(by simp;omega);have c24:(k==24)=false:=(by simp;omega);have b26:((k:Int)==26)=false:=(by simp;omega);have c26:(k==26)=false:=(by simp;omega);have b27:((k:Int)==27)=false:=(by simp;omega);have c27:(k==27)=false:=(by simp;omega);have b28:((k:Int)==28)=false:=(by simp;omega);have c28:(k==28)=false:=(by simp;omega);have b29:((k:Int)==29)=false:=(by simp;omega);have c29:(k==29)=false:=(by simp;omega);clear h;go_enter Tryz.func92,Tryz.ntmps92;go_wp2_with fail;go_ret;exact⟨by rw[HN.out];rfl,rfl⟩
theorem j45 (w:World) (Y:ByteArray) (hY:Y.size≤8):
  Calls Tryz.prog 94 #[.string Y] w fun e w'=>e=.returned (.int .u64 (q52 0 Y.data.toList:Nat))∧w=w':=by
 obtain⟨D,hD⟩:∃D,Y.data.toList=D:=⟨_,rfl⟩;have hDl:D.length=Y.size:=(by rw[←hD];exact Array.length_toList);have hat:∀j (h:j < D.length) (h2:j < Y.size),Y[j]'h2=D[j]:=fun j h h2=>qq4 Y j _ _ (by rw[←List.getElem?_eq_getElem h,←hD]);have HAt:=q00 hat;have HDl:=q00 hDl;rw[hD];clear hat hD hDl;go_enter Tryz.func94,Tryz.ntmps94;go_wp2_with fail;go_loopw [3,4] (fun n i wr=>∃j:Nat,j≤Y.size∧i=.int .i64 (j:Int)∧n=.int .u64 (q52 0 (D.take j):Nat)∧wr=w) (fun _ i _=>Y.size - (intOf i).toNat)
 case atStart=>exact⟨0,by omega,rfl,rfl,by trivial⟩
 case round=>
  obtain⟨j,hj,rfl,rfl,rfl⟩:=hrel;by_cases h:j < Y.size
  ·have hjl:j < D.length:=(by rw[HDl.out];exact h);have c0:=HAt.out j hjl h;obtain⟨d,hd⟩:∃d,D[j]'hjl=d:=⟨_,rfl⟩;rw[hd]at c0;have hnext:q52 0 (D.take (j+1))=q52 0 (D.take j) * 256+d.toNat:=(by rw[←List.take_append_getElem hjl,hd];simp[q52]);have hbound:q52 0 (D.take j) < 256 ^ j:=by have h1:=qz8 (D.take j);have h2:(D.take j).length=j:=(by rw[List.length_take];omega);rw[h2]at h1;exact h1
   have hp:(256:Nat) ^ j≤256 ^ 7:=Nat.pow_le_pow_right (by omega) (by omega);obtain⟨N,hN⟩:∃N,q52 0 (D.take j)=N:=⟨_,rfl⟩;rw[hN]at hnext hbound ⊢;have hNb:N < 72057594037927936:=by have:(256:Nat) ^ 7=72057594037927936:=rfl;omega
   have hd256:=d.toNat_lt;have HNext:=q00 hnext;clear hnext hbound hp hN hd;go_wp2_with fail;go_roundw
   case rel=>exact⟨j+1,by omega,by go_num,by rw[HNext.out];go_num,by trivial⟩
   case measure=>simp[intOf];omega
  ·have hjm:j=Y.size:=(by omega);subst hjm;rw[List.take_of_length_le (by rw[HDl.out];exact Nat.le_refl _)];obtain⟨N,hN⟩:∃N,q52 0 D=N:=⟨_,rfl⟩;rw[hN];have HN:=q00 hN;clear hN;go_wp2_with fail;go_ret;exact⟨by rw[HN.out];rfl,rfl⟩
theorem qa2 (w:World) (n:Nat):Calls Tryz.prog 105 #[.int .u64 n] w fun e w'=>e=.returned (str (q03 n))∧Mod [] w w':=by go_enter Tryz.func105,Tryz.ntmps105;go_wp2_with fail;refine(jq6 w n).mono ?_;rintro e w1 ⟨rfl,m1⟩;go_wp2_with fail;go_ret;exact⟨rfl,m1⟩
theorem jb2 (w:World) (S:ByteArray) (hS:S.size≤4611686018427387904):Calls Tryz.prog 106 #[.string S] w fun e w'=>e=.returned (str (q03 S.size++ S.data.toList))∧Mod [] w w':=by obtain⟨A1,hA⟩:∃A:ByteArray,A=⟨(q03 S.size).toArray⟩:=⟨_,rfl⟩;have HA:Hid (str (q03 S.size)=.string A1):=q00 (by rw[hA];rfl);have hAs:A1.size≤8:=(by rw[hA];exact q11 _);have hq:A1.size+S.size≤9223372036854775807:=(by omega);have HR:Hid (str (q03 S.size++ S.data.toList)=.string (A1++ S)):=q00 (by unfold str;rw[←q36 (A1++ S),hA];simp);have P1:=q00 (fun w=>qa2 w S.size);clear hA;go_enter Tryz.func106,Tryz.ntmps106;go_wp2_with fail;refine(P1.out _).mono ?_;rintro e w1 ⟨rfl,m1⟩;rw[HA.out];go_wp2_with fail;go_ret;exact⟨by rw[HR.out];rfl,m1⟩
theorem jj4 (w:World) (A:Option Addr) (n c:Nat) (l:List (Nat×Nat)) (h:Rngs w A n l) (v:Bool) (hv:rngs l=v):
  Calls Tryz.prog 93 #[.slice A n c] w (RPost w v):=by
 have hn1:=h.2.1;have hln:=h.1;have hv2:v=(q56 none l && (decide (1≤n) && decide (n≤64))):=(by rw[←hv,←hln];rfl);have HV:=q00 hv2;have HL:=q00 h;have HLn:=q00 hln;clear hv hv2 h hln;go_enter Tryz.func93,Tryz.ntmps93;go_wp2_with fail;go_loopw [3] (fun iv wr=>∃j:Nat,j≤n∧iv=.int .i64 (j:Int)∧Hid (q56 none l=q56 (q40 l j) (l.drop j))∧Hid (∀p,q40 l j=some p→p < 4611686018427387904)∧Mod [] w wr) (fun iv _=>n - (intOf iv).toNat)
 case atStart=>exact⟨0,by omega,rfl,q00 rfl,q00 (fun p hp=>by cases hp),Mod.refl _ _⟩
 case round=>
  obtain⟨j,hj,rfl,hC,hPb,hm⟩:=hrel;have HM:=q00 hm;by_cases h:j < n
  ·obtain⟨g,o,hjl,rfl,hgl,c0,c1⟩:=(HL.out.new hm).at_ h;have hstep:=jb4 hjl;rw[←hC.out]at hstep;have hprev:0 < j→∃p,q40 l j=some p∧wr.cell? ⟨g,o+(j - 1) * 2,none⟩=some (.int .u64 (p:Nat)):=fun h0=>(by obtain⟨g',o',hkl,he,_,d0,_⟩:=(HL.out.new hm).at_ (i:=j - 1) (by omega);cases he;refine⟨l[j - 1].1,?_,d0⟩;obtain⟨k,rfl⟩:∃k,j=k+1:=⟨j - 1,by omega⟩;unfold q40;simp only[Nat.add_sub_cancel];rw[List.getElem?_eq_getElem (by omega)];rfl);have hnp:q40 l (j+1)=some l[j].1:=(by unfold q40;simp only;rw[List.getElem?_eq_getElem hjl];rfl);obtain⟨lo,hlo⟩:∃x,l[j].1=x:=⟨_,rfl⟩;obtain⟨hi,hhi⟩:∃x,l[j].2=x:=⟨_,rfl⟩;rw[hlo]at c0 hnp;rw[hhi]at c1;have hcond:j71 (q40 l j) l[j]=(decide (lo≤hi) && decide (hi < 4611686018427387904) && (match q40 l j with | none=>true | some p=>decide (2≤p) && decide (hi≤p - 2))):=(by unfold j71;rw[hlo,hhi];cases q40 l j <;> rfl);rw[hcond]at hstep;have hvf:∀X:Bool,X=false→q56 none l=(X && q56 (q40 l (j+1)) (l.drop (j+1)))→v=false:=fun X hX he=>(by rw[HV.out,he,hX];rfl);have HVf:=q00 hvf;have HPrev:=q00 hprev;have HStep:=q00 hstep;have HNp:=q00 hnp;clear hC hprev hstep hcond hlo hhi hvf hjl hnp hm;by_cases h1:hi < lo
   ·have hf:=HVf.out _ (by rw[decide_eq_false (show ¬lo≤hi by omega)];rfl) HStep.out;have HF:=q00 hf;have d1:decide ((hi:Int) < lo)=true:=decide_eq_true (by omega);have d2:decide (hi < lo)=true:=decide_eq_true h1;clear hf HVf HStep HPrev;go_wp2_with fail;go_quiet (fail);go_wp2_with fail;go_ret;exact⟨by rw[HF.out];rfl,HM.out.drewN _⟩
   have d1:decide ((hi:Int) < lo)=false:=decide_eq_false (by omega);have d2:decide (hi < lo)=false:=decide_eq_false h1;by_cases h2:4611686018427387903 < hi
   ·have hf:=HVf.out _ (by rw[decide_eq_false (show ¬hi < 4611686018427387904 by omega)];simp) HStep.out;have HF:=q00 hf;have d3:decide ((4611686018427387904:Int)≤hi)=true:=decide_eq_true (by omega);have d4:decide (4611686018427387904≤hi)=true:=decide_eq_true h2;clear hf HVf HStep HPrev;go_wp2_with fail;go_quiet (fail);go_wp2_with fail;go_ret;exact⟨by rw[HF.out];rfl,HM.out.drewN _⟩
   have d3:decide ((4611686018427387904:Int)≤hi)=false:=decide_eq_false (by omega);have d4:decide (4611686018427387904≤hi)=false:=decide_eq_false h2;by_cases h0:0 < j
   ·obtain⟨p,hp,cp⟩:=HPrev.out h0;rw[hp]at HStep;have e1:(j:Int) - 1=((j - 1:Nat):Int):=(by omega);have hw1:IntKind.i64.wrap ((j:Int) - 1)=((j - 1:Nat):Int):=(by rw[e1];exact IntWalk.i64_in _ (by omega));have h0d:decide ((0:Int) < j)=true:=decide_eq_true (by omega);have h0n:decide (0 < j)=true:=decide_eq_true h0;have hjm:((j - 1:Nat):Int) < n:=(by omega);have HPp:=q00 hp;clear hp;by_cases h3:p < 2
    ·have hf:=HVf.out _ (by simp only;rw[decide_eq_false (show ¬2≤p by omega)];simp) HStep.out;have HF:=q00 hf;have d5:decide ((p:Int) < 2)=true:=decide_eq_true (by omega);have d6:decide (p < 2)=true:=decide_eq_true h3;clear hf HVf HStep HPrev;go_wp2_with fail;go_quiet (fail);go_wp2_with fail;go_quiet (fail);go_wp2_with fail;go_ret;exact⟨by rw[HF.out];rfl,by first | exact(HM.out.drewN _).drewN _ | exact HM.out.drewN _⟩
    ·have d5:decide ((p:Int) < 2)=false:=decide_eq_false (by omega);have d6:decide (p < 2)=false:=decide_eq_false h3;obtain⟨p2,hp2⟩:∃p2,p=p2+2:=⟨p - 2,by omega⟩;have HP2:=q00 hp2;have hsub:(p:Int) - 2=(p2:Int):=(by omega);have hp64:p < 4611686018427387904:=hPb.out p HPp.out;by_cases h4:p2 < hi
     ·have hf:=HVf.out _ (by simp only;rw[decide_eq_false (show ¬hi≤p - 2 by omega)];simp) HStep.out;have HF:=q00 hf;have d7:decide ((p2:Int) < hi)=true:=decide_eq_true (by omega);have d8:decide (p2 < hi)=true:=decide_eq_true h4;have hw2:IntKind.u64.wrap ((p:Int) - 2)=(p2:Int):=(by rw[hsub];exact IntWalk.u64_in _ (by omega));clear hf HVf HStep HPrev hp2;go_wp2_with fail;go_quiet (fail);go_wp2_with fail;go_quiet (fail);go_wp2_with fail;go_ret;exact⟨by rw[HF.out];rfl,by first | exact(HM.out.drewN _).drewN _ | exact HM.out.drewN _⟩
     ·have d7:decide ((p2:Int) < hi)=false:=decide_eq_false (by omega);have d8:decide (p2 < hi)=false:=decide_eq_false h4;have hw2:IntKind.u64.wrap ((p:Int) - 2)=(p2:Int):=(by rw[hsub];exact IntWalk.u64_in _ (by omega));have hnx:q56 none l=q56 (q40 l (j+1)) (l.drop (j+1)):=(by rw[HStep.out];simp only;rw[decide_eq_true (show lo≤hi by omega),decide_eq_true (show hi < 4611686018427387904 by omega),decide_eq_true (show 2≤p by omega),decide_eq_true (show hi≤p - 2 by omega)];simp);have HNx:=q00 hnx;have HPn:Hid (∀p,q40 l (j+1)=some p→p < 4611686018427387904):=q00 (fun p hp=>by rw[HNp.out]at hp;cases hp;omega);clear HVf HStep HPrev hp2 hnx hPb;go_wp2_with fail;go_quiet (fail);go_wp2_with fail;go_quiet (fail);go_wp2_with fail;go_roundw
      case rel=>exact⟨j+1,by omega,by go_num,HNx,HPn,by first | exact(HM.out.drewN _).drewN _ | exact HM.out.drewN _⟩
      case measure=>simp[intOf];omega
   ·have hj0:j=0:=(by omega);subst hj0;have hnx:q56 none l=q56 (q40 l 1) (l.drop 1):=(by rw[HStep.out];have:q40 l 0=none:=rfl;rw[this];simp only;rw[decide_eq_true (show lo≤hi by omega),decide_eq_true (show hi < 4611686018427387904 by omega)];simp);have HNx:=q00 hnx;have HPn:Hid (∀p,q40 l 1=some p→p < 4611686018427387904):=q00 (fun p hp=>by rw[HNp.out]at hp;cases hp;omega);simp only[Nat.zero_mul,Nat.add_zero]at c0 c1;clear HVf HStep HPrev hnx hPb;go_wp2_with fail;go_quiet (fail);go_wp2_with fail;go_quiet (fail);go_wp2_with fail;go_roundw
    case rel=>exact⟨1,by omega,by go_num,HNx,HPn,by first | exact(HM.out.drewN _).drewN _ | exact HM.out.drewN _⟩
    case measure=>simp[intOf];omega
  ·have hjn:j=n:=(by omega);subst hjn;have hv3:v=(decide (1≤j) && decide (j≤64)):=(by rw[HV.out,hC.out,List.drop_of_length_le (by rw[HLn.out];exact Nat.le_refl _)];rfl);have HV3:=q00 hv3;clear hv3 hC hPb hm;by_cases h1:0 < j
   ·have d1:decide ((1:Int)≤j)=true:=decide_eq_true (by omega);have d2:decide (1≤j)=true:=decide_eq_true h1;have d3:decide ((0:Int) < j)=true:=decide_eq_true (by omega);have d4:decide (0 < j)=true:=decide_eq_true h1;go_wp2_with fail;go_ret;refine⟨ja9 ?_,HM.out⟩;rw[HV3.out,decide_eq_true (show 1≤j by omega),Bool.true_and];exact decide_eq_decide.2 (by omega)
   ·have d1:decide ((1:Int)≤j)=false:=decide_eq_false (by omega);have d2:decide (1≤j)=false:=decide_eq_false h1;have d3:decide ((0:Int) < j)=false:=decide_eq_false (by omega);have d4:decide (0 < j)=false:=decide_eq_false h1;go_wp2_with fail;go_ret;refine⟨ja9 ?_,HM.out⟩;rw[HV3.out,decide_eq_false (show ¬1≤j by omega)];rfl
def j29 (f:Fr):Prop:=(q69 f.kind < 1→f.a=0)∧(q69 f.kind < 2→f.b=0)∧(q69 f.kind < 3→f.c=0)∧(q98 f.kind=false→f.data.size=0)∧(f.kind≠8→f.fin=false)∧(f.kind≠3∧f.kind≠24→f.more.size=0)∧(f.kind≠2∧f.kind≠3→f.list= [])
def z38 (f:Fr):Prop:=0≤q69 f.kind∧f.a < 4611686018427387904∧f.b < 4611686018427387904∧f.c < 4611686018427387904∧f.data.size≤16384
def zw6 (f:Fr):Bool:=if f.kind=0 then decide (1≤f.a) && decide (f.a≤16384)else if f.kind=2 then rngs f.list else if f.kind=3 then rngs f.list && (decide (f.more.size=8) && decide (q52 0 f.more.data.toList < 4611686018427387904))
 else if f.kind=6 then decide (f.a+f.data.size < 4611686018427387904)else if f.kind=7 then decide (0 < f.data.size)else if f.kind=8 then decide (f.b+f.data.size < 4611686018427387904)
 else if f.kind=18∨f.kind=19∨f.kind=22∨f.kind=23 then decide (f.a≤1152921504606846976)else if f.kind=24 then decide (f.b≤f.a) && (decide (1≤f.data.size) && (decide (f.data.size≤20) && decide (f.more.size=16)))
 else if f.kind=26∨f.kind=27 then decide (f.data.size=8)else true
theorem exV {x y:Bool} (h:Hid (x=y)):∃V,y=V∧Hid (x=V):=⟨y,rfl,h⟩
def kds (k:Nat):Prop:=k=0∨k=2∨k=3∨k=24∨k=5∨k=8∨k=17∨k=21∨k=28∨k=1∨k=7∨k=26∨k=27∨k=30∨k=6∨k=16∨k=18∨k=19∨k=20∨k=22∨k=23∨k=25∨k=29∨k=4
theorem jj1 {k:Nat} (h:0≤q69 k):kds k:=Decidable.byContradiction (p:=k=0∨_) fun h2=>by unfold q69 at h;rw[qv5 (fun h3=>h2 (by omega))]at h;exact absurd h (by decide)
theorem jn0 {f:Fr} (h:q31 f=true):z38 f:=by have h0:=h;unfold q31 at h;simp only[Bool.and_eq_true,decide_eq_true_eq]at h;refine⟨Decidable.byContradiction fun hn=> ?_,h.1.1.1.1,h.1.1.1.2,h.1.1.2,h.1.2⟩;have hk:¬kds f.kind:=(by unfold kds;rintro (h2 | h2 | h2 | h2 | h2 | h2 | h2 | h2 | h2 | h2 | h2 | h2 | h2 | h2 | h2 | h2 | h2 | h2 | h2 | h2 | h2 | h2 | h2 | h2) <;> (rw[h2]at hn;exact hn (by decide)));unfold kds at hk;have h5:=h.2;rw[j30 (by omega)]at h5;unfold qa8 at h5;rw[if_neg (by omega),if_neg (by omega),if_neg (by omega),if_neg (by omega)]at h5;cases h5
theorem zc9 {f:Fr} (hl:z38 f) (hn:j29 f):q31 f=zw6 f:=by
 obtain⟨k,a,b,c,fin,data,more,list⟩:=f;obtain⟨h0,ha,hb,hc,hd⟩:=hl;have hk:=jj1 h0;unfold j29 at hn;simp only at ha hb hc hd hn hk;rcases hk with rfl | rfl | rfl | rfl | rfl | rfl | rfl | rfl | rfl | rfl | rfl | rfl | rfl | rfl | rfl | rfl | rfl | rfl | rfl | rfl | rfl | rfl | rfl | rfl;all_goals
  simp[q69,ql0,q98]at hn
  simp[q31,q16,qd,qm4,qa8,qv4,zw6,ha,hb,hc,hd,hn,Bool.and_assoc,Nat.pos_iff_ne_zero,Bool.and_comm,Bool.and_left_comm]
theorem z40 {f:Fr} (h:q31 f=true):j29 f:=by
 have h0:=(jn0 h).1;obtain⟨k,a,b,c,fin,data,more,list⟩:=f;have hk:=jj1 h0;unfold j29;simp only at hk ⊢;rcases hk with rfl | rfl | rfl | rfl | rfl | rfl | rfl | rfl | rfl | rfl | rfl | rfl | rfl | rfl | rfl | rfl | rfl | rfl | rfl | rfl | rfl | rfl | rfl | rfl;all_goals
  simp[q69,ql0,q98]
  simp[q31,q16,qd,qm4,qa8,qv4]at h
  (try simp only[h,and_self,implies_true,and_true,true_and,not_false_eq_true]) <;> (try omega)
theorem zj0 (w:World) (A:Option Addr) (n c:Nat) (k a b e:Nat) (fin:Bool) (data more:ByteArray) (list:List (Nat×Nat)) (hr:Hid (Rngs w A n list)) (hbad:¬z38 ⟨k,a,b,e,fin,data,more,list⟩):
  Calls Tryz.prog 54 #[q17 A n c ⟨k,a,b,e,fin,data,more,list⟩] w (RPost w (q31 ⟨k,a,b,e,fin,data,more,list⟩)):=by
 have HV:Hid (q31 ⟨k,a,b,e,fin,data,more,list⟩=false):=q00 (Bool.eq_false_iff.2 fun h=>hbad (jn0 h));have HB:=q00 hbad;have HN:=q00 (fun w=>qk2 w k);obtain⟨N,hN⟩:∃N,q69 k=N:=⟨_,rfl⟩;have HE:=q00 hN;rw[hN]at HN;unfold q17 fcs;simp only;clear hbad hN;rcases hem (N < 0)with g0 | g0;rotate_left;rcases hem (4611686018427387904≤a)with g1 | g1;rotate_left;rcases hem (4611686018427387904≤b)with g2 | g2;rotate_left;rcases hem (4611686018427387904≤e)with g3 | g3;rotate_left;rcases hem (16384 < data.size)with g4 | g4;rotate_left
 ·exact absurd ⟨by rw[HE.out];have:=g0.out;omega,Nat.lt_of_not_le g1.out,Nat.lt_of_not_le g2.out,Nat.lt_of_not_le g3.out,Nat.le_of_not_lt g4.out⟩ HB.out
 all_goals
  try have n0:decide (N < 0)=true:=decide_eq_true g0.out
  try have n0:decide (N < 0)=false:=decide_eq_false g0.out
  try have ⟨a1,a2⟩:=z22 g1
  try have ⟨a1,a2⟩:=qw1 g1
  try have ⟨b1,b2⟩:=z22 g2
  try have ⟨b1,b2⟩:=qw1 g2
  try have ⟨e1,e2⟩:=z22 g3
  try have ⟨e1,e2⟩:=qw1 g3
  try have ⟨d1,d2⟩:=zw2 g4
  go_enter Tryz.func54,Tryz.ntmps54
  go_wp2_with fail
  refine(HN.out _).mono ?_
  rintro e w1 ⟨rfl,rfl⟩
  go_wp2_with fail
  go_ret
  exact RPost.of HV.out ((Mod.refl _ _).alloc _)
theorem zp {k:Nat} (h:kds k):q69 k=1∧q98 k=false∧k≠8∧k≠3∧k≠24∧k≠2∨q69 k=0∧q98 k=false∧k≠8∧k≠3∧k≠24∧k≠2∨q69 k=0∧q98 k=true∧k≠8∧k≠3∧k≠24∧k≠2∨q69 k=2∧q98 k=false∧k≠8∧k≠3∧k≠24∧k≠2∨q69 k=2∧q98 k=true∧k≠8∧k≠3∧k≠24∧k≠2∨q69 k=1∧q98 k=true∧k≠8∧k≠3∧k≠24∧k≠2∨q69 k=3∧q98 k=false∧k≠8∧k≠3∧k≠24∧k≠2∨q69 k=2∧q98 k=true∧k=8∨q69 k=2∧q98 k=true∧k=24∨q69 k=3∧q98 k=false∧k=3∨q69 k=1∧q98 k=false∧k=2:=by rcases h with rfl | rfl | rfl | rfl | rfl | rfl | rfl | rfl | rfl | rfl | rfl | rfl | rfl | rfl | rfl | rfl | rfl | rfl | rfl | rfl | rfl | rfl | rfl | rfl <;> simp[q69,ql0,q98]
theorem zj (w:World) (A:Option Addr) (n c:Nat) (k a b e:Nat) (fin:Bool) (data more:ByteArray) (list:List (Nat×Nat)) (hr:Hid (Rngs w A n list)) (hl:Hid (z38 ⟨k,a,b,e,fin,data,more,list⟩)) (hn:Hid (¬j29 ⟨k,a,b,e,fin,data,more,list⟩)):
  Calls Tryz.prog 54 #[q17 A n c ⟨k,a,b,e,fin,data,more,list⟩] w (RPost w (q31 ⟨k,a,b,e,fin,data,more,list⟩)):=by
 have HV:Hid (q31 ⟨k,a,b,e,fin,data,more,list⟩=false):=q00 (Bool.eq_false_iff.2 fun h=>hn.out (z40 h));have HE:Hid (list.length=n):=q00 hr.out.1;have HN:=q00 (fun w=>qk2 w k);have HD:=q00 (fun w=>j21 w k);have ⟨a1,a2⟩:=qw1 (q00 (Nat.not_le_of_lt hl.out.2.1));have ⟨b1,b2⟩:=qw1 (q00 (Nat.not_le_of_lt hl.out.2.2.1));have ⟨e1,e2⟩:=qw1 (q00 (Nat.not_le_of_lt hl.out.2.2.2.1));have ⟨d1,d2⟩:=zs8 (q00 (Nat.not_lt_of_le hl.out.2.2.2.2));have ha:=hl.out.2.1;have hb:=hl.out.2.2.1;have hd:=hl.out.2.2.2.2;simp only at a1 a2 b1 b2 e1 e2 d1 d2 ha hb hd;have hn62:=hr.out.2.1;unfold q17 fcs;simp only;rcases zp (show kds k from jj1 hl.out.1)with⟨c1,c2,c3⟩ | ⟨c1,c2,c3⟩ | ⟨c1,c2,c3⟩ | ⟨c1,c2,c3⟩ | ⟨c1,c2,c3⟩ | ⟨c1,c2,c3⟩ | ⟨c1,c2,c3⟩ | ⟨c1,c2,c3⟩ | ⟨c1,c2,c3⟩ | ⟨c1,c2,c3⟩ | ⟨c1,c2,c3⟩;all_goals
  as_aux_lemma=>
   rw[show q69 k=_ from c1]at HN
   rw[show q98 k=_ from c2]at HD
   first | (have:=q00 (show ¬q69 k < 1 by rw[c1];decide)) | (rcases hem (a≠0)with h0 | h0;rotate_left)
   first | (have:=q00 (show ¬q69 k < 2 by rw[c1];decide)) | (rcases hem (b≠0)with h1 | h1;rotate_left)
   first | (have:=q00 (show ¬q69 k < 3 by rw[c1];decide)) | (rcases hem (e≠0)with h2 | h2;rotate_left)
   first | (have:=q00 (show q98 k=true from c2)) | (rcases hem (0 < data.size)with h3 | h3;rotate_left)
   first | (have:=q00 (show k=8 from c3)) | (rcases hem (fin=true)with h4 | h4;rotate_left)
   first | (have:=q00 (show k=3∨k=24 by omega)) | (rcases hem (0 < more.size)with h5 | h5;rotate_left)
   first | (have:=q00 (show k=2∨k=3 by omega)) | (rcases hem (0 < n)with h6 | h6;rotate_left)
   ·refine absurd (show j29 _ from⟨fun h=> ?_,fun h=> ?_,fun h=> ?_,fun h=> ?_,fun h=> ?_,fun h=> ?_,fun h=> ?_⟩) hn.out
    all_goals (try simp only at h) <;> (try rw[c1]at h) <;> (try rw[c2]at h) <;> first | exact Decidable.byContradiction h0.out | exact Decidable.byContradiction h1.out | exact Decidable.byContradiction h2.out | exact Nat.eq_zero_of_not_pos h3.out | exact Bool.eq_false_iff.2 h4.out | exact Nat.eq_zero_of_not_pos h5.out | exact List.eq_nil_of_length_eq_zero (HE.out.trans (Nat.eq_zero_of_not_pos h6.out)) | exact absurd h (by decide) | (exfalso;omega)
   all_goals
    clear c1 c2
    try have m8:((k:Int) !=8)=true:=by simp;omega
    try have m3:((k:Int) !=3)=true:=by simp;omega
    try have m24:((k:Int) !=24)=true:=by simp;omega
    try have m2:((k:Int) !=2)=true:=by simp;omega
    first | subst c3 | clear c3
    try have ⟨z0,y0⟩:=zu7 h0
    try have ⟨z0,y0⟩:=z59 h0
    try have ⟨z1,y1⟩:=zu7 h1
    try have ⟨z1,y1⟩:=z59 h1
    try have ⟨z2,y2⟩:=zu7 h2
    try have ⟨z2,y2⟩:=z59 h2
    try have ⟨z3,y3⟩:=zi1 h3
    try have ⟨z3,y3⟩:=jv6 h3
    try (have q4:fin=true:=h4.out;subst q4)
    try (have q4:fin=false:=Bool.eq_false_iff.2 h4.out;subst q4)
    try have ⟨z5,y5⟩:=zi1 h5
    try have ⟨z5,y5⟩:=jv6 h5
    try have ⟨z6,y6⟩:=zi1 h6
    go_enter Tryz.func54,Tryz.ntmps54
    go_wp2_with fail
    refine(HN.out _).mono ?_
    rintro e w1 ⟨rfl,rfl⟩
    simp only[List.append_eq,List.cons_append,List.nil_append]at *
    go_wp2_with fail
    try (refine(HD.out _).mono ?_;rintro e w2 ⟨rfl,rfl⟩;go_wp2_with fail)
    go_ret
    exact RPost.of HV.out ((Mod.refl _ _).alloc _)
theorem z79 (w:World) (A:Option Addr) (n c:Nat) (k a b e:Nat) (fin:Bool) (data more:ByteArray) (list:List (Nat×Nat)) (hr:Hid (Rngs w A n list)) (hl:Hid (z38 ⟨k,a,b,e,fin,data,more,list⟩)) (hn:Hid (j29 ⟨k,a,b,e,fin,data,more,list⟩)):
  Calls Tryz.prog 54 #[q17 A n c ⟨k,a,b,e,fin,data,more,list⟩] w (RPost w (q31 ⟨k,a,b,e,fin,data,more,list⟩)):=by
 have HV:=q00 (zc9 hl.out hn.out);obtain⟨j,hk⟩:∃j,k=j:=⟨_,rfl⟩;have hj:kds j:=hk ▸ jj1 hl.out.1;have HE:Hid (list.length=n):=q00 hr.out.1;have HRg:=q00 (fun w' (h:Rngs w' A n list)=>jj4 w' A n c list h _ rfl);obtain⟨q0,q1,q2,q3,q4,q5,q6⟩:=hn.out;have HN:=q00 (fun w=>qk2 w k);have HD:=q00 (fun w=>j21 w k);have ⟨a1,a2⟩:=qw1 (q00 (Nat.not_le_of_lt hl.out.2.1));have ⟨b1,b2⟩:=qw1 (q00 (Nat.not_le_of_lt hl.out.2.2.1));have ⟨e1,e2⟩:=qw1 (q00 (Nat.not_le_of_lt hl.out.2.2.2.1));have ⟨d1,d2⟩:=zs8 (q00 (Nat.not_lt_of_le hl.out.2.2.2.2));have ha:=hl.out.2.1;have hb:=hl.out.2.2.1;have hd:=hl.out.2.2.2.2;simp only at a1 a2 b1 b2 e1 e2 d1 d2 ha hb hd;have hn62:=hr.out.2.1;unfold q17 fcs;simp only at q0 q1 q2 q3 q4 q5 q6 ⊢;rcases hj with rfl | rfl | rfl | rfl | rfl | rfl | rfl | rfl | rfl | rfl | rfl | rfl | rfl | rfl | rfl | rfl | rfl | rfl | rfl | rfl | rfl | rfl | rfl | rfl;all_goals
  first | rw[show q69 k=0 by subst hk;rfl]at HN | rw[show q69 k=1 by subst hk;rfl]at HN | rw[show q69 k=2 by subst hk;rfl]at HN | rw[show q69 k=3 by subst hk;rfl]at HN
  first | rw[show q98 k=true by subst hk;rfl]at HD | rw[show q98 k=false by subst hk;rfl]at HD
  try have ⟨z0,y0⟩:=z59 (q00 (fun h=>h (q0 (by subst hk;decide))))
  try have ⟨z1,y1⟩:=z59 (q00 (fun h=>h (q1 (by subst hk;decide))))
  try have ⟨z2,y2⟩:=z59 (q00 (fun h=>h (q2 (by subst hk;decide))))
  try have ⟨z3,y3⟩:=jv6 (q00 (Nat.not_lt_of_le (Nat.le_of_eq (q3 (by subst hk;rfl)))))
  try (have q9:=q4 (by omega);subst q9)
  try have ⟨z5,y5⟩:=jv6 (q00 (Nat.not_lt_of_le (Nat.le_of_eq (q5 (by omega)))))
  try have ⟨z6,y6⟩:=jv6 (a:=n) (q00 (by have:=HE.out;rw[q6 (by omega)]at this;simp at this;omega))
  subst hk
  clear q0 q1 q2 q3 q4 q5 q6
 ·rcases hem (1≤a)with g1 | g1
  ·obtain⟨V,hV⟩:∃V,decide (a≤16384)=V:=⟨_,rfl⟩;have ⟨x1,x2⟩:=zx4 g1;have ⟨x3,x4⟩:=zx9 hV;have ⟨x5,x6⟩:=zi1 (q00 g1.out);replace HV:Hid (q31 _=V):=q00 (HV.out.trans (by rw[←hV];show(decide (1≤a) && _)=_;rw[x2];rfl));clear hV;go_enter Tryz.func54,Tryz.ntmps54;go_wp2_with fail;refine(HN.out _).mono ?_;rintro e w1 ⟨rfl,rfl⟩;simp only[List.append_eq,List.cons_append,List.nil_append]at *;go_wp2_with fail;refine(HD.out _).mono ?_;rintro e w2 ⟨rfl,rfl⟩;go_wp2_with fail;go_ret;exact RPost.of HV.out ((Mod.refl _ _).alloc _)
  ·have ⟨x1,x2⟩:=zx3 g1;have ⟨x5,x6⟩:=jv6 (q00 g1.out);replace HV:Hid (q31 _=false):=q00 (HV.out.trans (by show(decide (1≤a) && _)=_;rw[x2];rfl));go_enter Tryz.func54,Tryz.ntmps54;go_wp2_with fail;refine(HN.out _).mono ?_;rintro e w1 ⟨rfl,rfl⟩;simp only[List.append_eq,List.cons_append,List.nil_append]at *;go_wp2_with fail;refine(HD.out _).mono ?_;rintro e w2 ⟨rfl,rfl⟩;go_wp2_with fail;go_ret;exact RPost.of HV.out ((Mod.refl _ _).alloc _)
 ·replace HV:Hid (q31 _=rngs list):=q00 HV.out;go_enter Tryz.func54,Tryz.ntmps54;go_wp2_with fail;refine(HN.out _).mono ?_;rintro e w1 ⟨rfl,rfl⟩;simp only[List.append_eq,List.cons_append,List.nil_append]at *;go_wp2_with fail;refine(HD.out _).mono ?_;rintro e w2 ⟨rfl,rfl⟩;go_wp2_with fail;refine(HRg.out _ (hr.out.new ((Mod.refl [] w).alloc _))).mono ?_;rintro e w3 ⟨rfl,m3⟩;go_wp2_with fail;go_ret;exact RPost.of HV.out (((Mod.refl _ _).alloc _).trans m3 (by simp))
 ·cases hrg:rngs list with
  | false=>rw[hrg]at HRg;replace HV:Hid (q31 _=false):=q00 (HV.out.trans (by show(rngs list && _)=_;rw[hrg];rfl));clear hrg;go_enter Tryz.func54,Tryz.ntmps54;go_wp2_with fail;refine(HN.out _).mono ?_;rintro e w1 ⟨rfl,rfl⟩;simp only[List.append_eq,List.cons_append,List.nil_append]at *;go_wp2_with fail;refine(HD.out _).mono ?_;rintro e w2 ⟨rfl,rfl⟩;go_wp2_with fail;refine(HRg.out _ (hr.out.new ((Mod.refl [] w).alloc _))).mono ?_;rintro e w3 ⟨rfl,m3⟩;go_wp2_with fail;go_ret;exact RPost.of HV.out (((Mod.refl _ _).alloc _).trans m3 (by simp))
  | true=>
   rw[hrg]at HRg;rcases hem (more.size=8)with g1 | g1
   ·have ⟨x1,x2⟩:=zz9 g1;have HNm:=q00 (fun w'=>j45 w' more (by rw[g1.out];exact Nat.le_refl 8));obtain⟨N,hN⟩:∃N,q52 0 more.data.toList=N:=⟨_,rfl⟩;obtain⟨V,hV⟩:∃V,decide (N < 4611686018427387904)=V:=⟨_,rfl⟩;rw[hN]at HNm;have ⟨x3,x4⟩:=x03 hV;replace HV:Hid (q31 _=V):=q00 (HV.out.trans (by show(rngs list && (decide (more.size=8) && decide (q52 0 more.data.toList < 4611686018427387904)))=_;rw[hrg,decide_eq_true g1.out,hN,hV];rfl));clear hV hN hrg;go_enter Tryz.func54,Tryz.ntmps54;go_wp2_with fail;refine(HN.out _).mono ?_;rintro e w1 ⟨rfl,rfl⟩;simp only[List.append_eq,List.cons_append,List.nil_append]at *;go_wp2_with fail;refine(HD.out _).mono ?_;rintro e w2 ⟨rfl,rfl⟩;go_wp2_with fail;refine(HRg.out _ (hr.out.new ((Mod.refl [] w).alloc _))).mono ?_;rintro e w3 ⟨rfl,m3⟩;have B3:=m3.blk (Blk.new w 36 #[.int .u64 3,.int .u64 (a:Nat),.int .u64 (b:Nat),.int .u64 (e:Nat),.bool false,.string data,.string more,.slice A n c]) (by simp);have y6:=B3.cell 6;have l6:=B3.lt;clear B3;go_wp2_with fail;refine(HNm.out _).mono ?_;rintro e w4 ⟨rfl,rfl⟩;go_wp2_with fail;go_ret;exact RPost.of HV.out (((Mod.refl _ _).alloc _).trans m3 (by simp))
   ·have ⟨x1,x2⟩:=zz8 g1;replace HV:Hid (q31 _=false):=q00 (HV.out.trans (by show(rngs list && (decide (more.size=8) && _))=_;rw[decide_eq_false g1.out,hrg];rfl));clear hrg;go_enter Tryz.func54,Tryz.ntmps54;go_wp2_with fail;refine(HN.out _).mono ?_;rintro e w1 ⟨rfl,rfl⟩;simp only[List.append_eq,List.cons_append,List.nil_append]at *;go_wp2_with fail;refine(HD.out _).mono ?_;rintro e w2 ⟨rfl,rfl⟩;go_wp2_with fail;refine(HRg.out _ (hr.out.new ((Mod.refl [] w).alloc _))).mono ?_;rintro e w3 ⟨rfl,m3⟩;have B3:=m3.blk (Blk.new w 36 #[.int .u64 3,.int .u64 (a:Nat),.int .u64 (b:Nat),.int .u64 (e:Nat),.bool false,.string data,.string more,.slice A n c]) (by simp);have y6:=B3.cell 6;have l6:=B3.lt;clear B3;go_wp2_with fail;go_ret;exact RPost.of HV.out (((Mod.refl _ _).alloc _).trans m3 (by simp))
 ·obtain⟨V,hV⟩:∃V,decide (more.size=16)=V:=⟨_,rfl⟩;have ⟨v1,v2⟩:=zw4 hV;replace HV:Hid (q31 _=(decide (b≤a) && (decide (1≤data.size) && (decide (data.size≤20) && V)))):=q00 (HV.out.trans (by rw[←hV];rfl));clear hV;rcases hem (b≤a)with g0 | g0;rcases hem (1≤data.size)with g1 | g1;rcases hem (data.size≤20)with g2 | g2;all_goals
   try have ⟨w0,w1⟩:=x02 g0
   try have ⟨w0,w1⟩:=x01 g0
   try have ⟨w2,w3⟩:=zx4 g1
   try have ⟨w2,w3⟩:=zx3 g1
   try have ⟨w6,w7⟩:=zi1 (q00 g1.out)
   try have ⟨w6,w7⟩:=jv6 (q00 g1.out)
   try have ⟨w4,w5⟩:=zy0 g2
   try have ⟨w4,w5⟩:=zy g2
   (try rw[w1]at HV) <;> (try rw[w3]at HV) <;> (try rw[w5]at HV)
   simp only[Bool.true_and,Bool.false_and]at HV
   go_enter Tryz.func54,Tryz.ntmps54
   go_wp2_with fail
   refine(HN.out _).mono ?_
   rintro e w1 ⟨rfl,rfl⟩
   simp only[List.append_eq,List.cons_append,List.nil_append]at *
   go_wp2_with fail
   refine(HD.out _).mono ?_
   rintro e w2 ⟨rfl,rfl⟩
   go_wp2_with fail
   go_ret
   exact RPost.of HV.out ((Mod.refl _ _).alloc _)
 all_goals
  obtain⟨V,hV,HV⟩:=exV HV
  first | (have q9:true=V:=hV;subst q9) | have ⟨x1,x2⟩:=x04 (a:=data.size) hV | have ⟨x1,x2⟩:=x00 (a:=data.size) hV | have ⟨x1,x2⟩:=zy1 (a:=a) hV | have ⟨x1,x2⟩:=zw0 (a:=a) (b:=data.size) hV | have ⟨x1,x2⟩:=zw0 (a:=b) (b:=data.size) hV
  clear hV
  go_enter Tryz.func54,Tryz.ntmps54
  go_wp2_with fail
  refine(HN.out _).mono ?_
  rintro e w1 ⟨rfl,rfl⟩
  simp only[List.append_eq,List.cons_append,List.nil_append]at *
  go_wp2_with fail
  refine(HD.out _).mono ?_
  rintro e w2 ⟨rfl,rfl⟩
  go_wp2_with fail
  go_ret
  exact RPost.of HV.out ((Mod.refl _ _).alloc _)
theorem qc3 (w:World) (A:Option Addr) (n c:Nat) (f:Fr) (hr:Rngs w A n f.list):
  Calls Tryz.prog 54 #[q17 A n c f] w (RPost w (q31 f)):=by
 obtain⟨k,a,b,e,fin,data,more,list⟩:=f;rcases Classical.em (z38 ⟨k,a,b,e,fin,data,more,list⟩)with hl | hl
 ·rcases Classical.em (j29 ⟨k,a,b,e,fin,data,more,list⟩)with hn | hn
  ·exact z79 w A n c k a b e fin data more list (q00 hr) (q00 hl) (q00 hn)
  ·exact zj w A n c k a b e fin data more list (q00 hr) (q00 hl) (q00 hn)
 ·exact zj0 w A n c k a b e fin data more list (q00 hr) hl
end Go.Proofs.YtlfjhgamlkbofaaGreatDoor
