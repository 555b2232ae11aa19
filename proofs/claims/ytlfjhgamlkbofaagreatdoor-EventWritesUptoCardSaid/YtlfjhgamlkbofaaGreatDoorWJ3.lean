/-
  Contracts of the functions that the laws of this seat reach, and plain laws, part 7 of 17; no condition.
-/
import Derived.Test.YtlfjhgamlkbofaaGreatDoorWC
import Derived.Lib.ItoaNum
import Derived.Test.YtlfjhgamlkbofaaGreatDoorWJ1
import Derived.Deep.DeepCutAuto
import Derived.Deep.CutBlock
import Derived.Lib.ConvBytes
import Derived.WalkMore
import Derived.Deep.RegionHeldLaw
import Derived.Shelf.Strconv.Itoa4
set_option linter.unusedVariables false
set_option linter.unusedSimpArgs false
set_option linter.unnecessarySimpa false
set_option maxRecDepth 100000
set_option maxHeartbeats 16000000
namespace Go.Proofs.YtlfjhgamlkbofaaGreatDoor.Js
open Go
def q73 (obj:Bool) (k:List ByteArray):List UInt8:=if obj then quo ((k.headD ⟨#[]⟩).data.toList)++ [58]else []
mutual
def jwr:JV→List UInt8
 | .mk k i t l ks=>if k=0 then [110,117,108,108]else if k=1 then [102,97,108,115,101]else if k=2 then [116,114,117,101]else if k=3 then Lib.itoa i else if k=4 then quo t.data.toList
   else if k=6 then 123 ::(q42 true l ks++ [125])else 91 ::(q42 false l ks++ [93])
def q42 (obj:Bool):List JV→List ByteArray→List UInt8
 | [],_=> []
 | x ::l,ks=>q73 obj ks++ jwr x++ q62 obj l ks.tail
def q62 (obj:Bool):List JV→List ByteArray→List UInt8
 | [],_=> []
 | x ::l,ks=>44 ::(q73 obj ks++ jwr x++ q62 obj l ks.tail)
end
theorem ze1 (a b:List UInt8) (n:Nat):qq5 (a++ b) n=qq5 b (qq5 a n):=by
 induction a generalizing n with
 | nil=>rfl
 | cons c t ih=>exact ih _
theorem zc6 {d:Nat} (h:d < 10):q72 (UInt8.ofNat (48+d))=true∧(UInt8.ofNat (48+d)).toNat=48+d:=by
 have e:(UInt8.ofNat (48+d)).toNat=48+d:=(by simp;omega);refine⟨?_,e⟩;unfold q72;simp only[Bool.and_eq_true,decide_eq_true_eq,UInt8.le_iff_toNat_le,e];constructor
 ·show 48≤48+d;omega
 ·show 48+d≤57;omega
theorem qy8:∀u:Nat,(Lib.decDigits u).all q72=true∧(Lib.decDigits u≠ [])∧qq5 (Lib.decDigits u) 0=u∧(0 < u→∃c t,Lib.decDigits u=c ::t∧c≠48):=by
 intro u;induction u using Nat.strongRecOn with
 | _ u ih=>
  by_cases h:u < 10
  ·obtain⟨h1,h2⟩:=zc6 h;rw[Lib.decDigits,dif_pos h];refine⟨by simp only[List.all_cons,List.all_nil,h1,Bool.and_self],by simp,?_,fun h0=>⟨_,_,rfl,fun e=> ?_⟩⟩
   ·simp only[qq5,h2];omega
   ·have:=congrArg UInt8.toNat e;rw[h2]at this;have e48:(48:UInt8).toNat=48:=rfl;omega
  ·obtain⟨h1,h2⟩:=zc6 (d:=u % 10) (by omega);obtain⟨h3,h4,h5,h6⟩:=ih (u / 10) (by omega);rw[Lib.decDigits,dif_neg h];refine⟨by simp only[List.all_append,h3,List.all_cons,List.all_nil,h1,Bool.and_self],by simp,?_,fun _=> ?_⟩
   ·rw[ze1,h5];simp only[qq5,h2];omega
   ·obtain⟨c,t,e,hc⟩:=h6 (by omega);exact⟨c,t++ [UInt8.ofNat (48+u % 10)],by rw[e];rfl,hc⟩
theorem jn4 (neg:Bool) (u:Nat) (hu:neg=true→0 < u) (r:List UInt8) (hr:r.head?.any q72=false):qo9 neg (Lib.decDigits u++ r)=.ok (Lib.decDigits u) r:=by
 obtain⟨h1,h2,h3,h4⟩:=qy8 u;unfold qo9;by_cases h0:u=0
 ·subst h0;have e:Lib.decDigits 0= [48]:=(by rw[Lib.decDigits,dif_pos (by omega)];rfl);have hn:neg=false:=(by cases neg with | false=>rfl | true=>exact absurd (hu rfl) (by omega));rw[e,hn];rfl
 ·obtain⟨c,t,e,hc⟩:=h4 (by omega);rw[e]at h1 ⊢;simp only[List.all_cons,Bool.and_eq_true]at h1;obtain⟨h5,h6⟩:=j73 q72 t r h1.2 hr;have hcond:(q72 c && (!neg || c !=48))=true:=(by simp[h1.1,hc]);simp only[List.cons_append,q19,hcond,if_true,PR.bind,if_neg hc,h5,h6]
theorem ji8 (i:Int) (h1: -9223372036854775808≤i) (h2:i < 9223372036854775808) (r:List UInt8) (hr:r.head?.any q72=false):q39 (Lib.itoa i++ r)=.ok i r:=by
 unfold Lib.itoa;by_cases hn:i < 0
 ·rw[if_pos hn];unfold q39;rw[List.cons_append,jo,jn4 true _ (fun _=>by omega) r hr];have e:qa7 (true,Lib.decDigits i.natAbs)=i:=(by unfold qa7;rw[if_pos rfl];simp only;rw[(qy8 _).2.2.1];omega);simp only[PR.bind,e];rw[if_pos ⟨h1,h2⟩]
 ·rw[if_neg hn];unfold q39;obtain⟨g1,g2,g3,g4⟩:=qy8 i.toNat;obtain⟨c,t,ec⟩:∃c t,Lib.decDigits i.toNat=c ::t:=by
   cases hd:Lib.decDigits i.toNat with
   | nil=>exact absurd hd g2
   | cons c t=>exact⟨c,t,rfl⟩
  have h45:c≠45:=(by rw[ec]at g1;simp only[List.all_cons,Bool.and_eq_true]at g1;rintro rfl;simp[q72]at g1);have hj:=jn4 false i.toNat (fun h=>by cases h) r hr;have e:qa7 (false,Lib.decDigits i.toNat)=i:=(by unfold qa7;simp only[Bool.false_eq_true,if_false];rw[g3];omega);rw[ec]at hj e ⊢;rw[List.cons_append]at hj ⊢;rw[jo0 h45,hj];simp only[PR.bind,e];rw[if_pos ⟨h1,h2⟩]
theorem zd8:∀c:UInt8,qr0 c=none→(c < 32∨126 < c)→∀r,qe1 (117 ::48 ::48 ::q93 (c.toNat / 16) ::q93 (c.toNat % 16) ::r)=.ok c r:=by intro c _ _ r;have hx:∀n:Nat,n < 16→qd4 (q93 n)=true∧(qd0 (q93 n)).toNat=n:=(by decide);have e1:=hx (c.toNat / 16) (by have:=UInt8.toNat_lt c;omega);have e2:=hx (c.toNat % 16) (by omega);have e3:qd0 (q93 (c.toNat / 16)) <<< 4 ||| qd0 (q93 (c.toNat % 16))=c:=(by obtain⟨v1,h1⟩:∃v,qd0 (q93 (c.toNat / 16))=v:=⟨_,rfl⟩;obtain⟨v2,h2⟩:∃v,qd0 (q93 (c.toNat % 16))=v:=⟨_,rfl⟩;rw[h1,h2];rw[h1]at e1;rw[h2]at e2;have k1:v1=UInt8.ofNat (c.toNat / 16):=(by rw[←e1.2];simp);have k2:v2=UInt8.ofNat (c.toNat % 16):=(by rw[←e2.2];simp);rw[k1,k2];have all:∀n:Nat,n < 256→UInt8.ofNat (n / 16) <<< 4 ||| UInt8.ofNat (n % 16)=UInt8.ofNat n:=(by decide);rw[all _ (UInt8.toNat_lt c)];simp);unfold qe1;simp[q19,PR.bind,qe4,e1.1,e2.1,e3]
theorem ju5 (c:UInt8) (r l:List UInt8) (k:List UInt8) (h:qa0 r=.ok l k):qa0 (esc c++ r)=.ok (c ::l) k:=by
 rw[ql2];unfold esc;cases hs:qr0 c with
 | some b=>
  have key:∀c b:UInt8,qr0 c=some b→qe4 b=some c∧b≠117:=by
   intro c b;unfold qr0;intro h
   repeat' split at h
   all_goals first
    | (cases h;done)
    | (rename_i hc;cases h;subst hc;decide)
  obtain⟨k1,_⟩:=key c b hs;have e:qe1 (b ::r)=.ok c r:=(by unfold qe1;simp[q19,PR.bind,k1]);simp only[List.cons_append,List.nil_append];simp[q19,pri,PR.bind,e,h]
 | none=>
  by_cases hc:c < 32∨126 < c
  ·have e:=zd8 c hs hc r;simp only[if_pos hc,List.cons_append,List.nil_append];simp[q19,pri,PR.bind,e,h]
  ·simp only[if_neg hc,List.cons_append,List.nil_append];have hp:pri c=true:=(by unfold pri;simp only[Bool.and_eq_true,decide_eq_true_eq];simp only[UInt8.lt_iff_toNat_lt,UInt8.le_iff_toNat_le]at hc ⊢;omega);have h34:c≠34:=(by rintro rfl;simp[qr0]at hs);have h92:c≠92:=(by rintro rfl;simp[qr0]at hs);simp[q19,hp,PR.bind,h34,h92,h]
theorem z56 (s r:List UInt8):qa0 (s.flatMap esc++ 34 ::r)=.ok s r:=by
 induction s with
 | nil=>rw[ql2];simp[q19,pri,PR.bind]
 | cons c t ih=>rw[List.flatMap_cons,List.append_assoc];exact ju5 c _ _ _ ih
theorem jf (s r:List UInt8):q92 (quo s++ r)=.ok s r:=by unfold q92 quo;simp only[List.cons_append,List.append_assoc,List.nil_append];simp only[q19,beq_self_eq_true,if_true,PR.bind];exact z56 s r
def j48 (i:Int):Bool:=decide (-9223372036854775808≤i) && decide (i < 9223372036854775808)
mutual
def qh7:JV→Bool
 | .mk k i t l ks=>j48 i && qc7 l
def qc7:List JV→Bool
 | []=>true
 | x ::l=>qh7 x && qc7 l
end
theorem qo8 {i:Int} (h:j48 i=true): -9223372036854775808≤i∧i < 9223372036854775808:=by unfold j48 at h;simpa using h
theorem je6 {i:Int} :∃c t,Lib.itoa i=c ::t∧(c=45∨q72 c=true):=by
 unfold Lib.itoa
 split
 ·exact⟨_,_,rfl,.inl rfl⟩
 ·obtain⟨h1,h2,_,_⟩:=qy8 i.toNat;cases hd:Lib.decDigits i.toNat with
  | nil=>exact absurd hd h2
  | cons c t=>rw[hd]at h1;simp only[List.all_cons,Bool.and_eq_true]at h1;exact⟨c,t,rfl,.inr h1.1⟩
theorem qy9 {c:UInt8} (h:c=45∨q72 c=true):j13 c=false∧c≠93∧c≠125∧c≠110∧c≠102∧c≠116∧c≠34∧c≠91∧c≠123:=by
 rcases h with rfl | h
 ·decide
 ·have e:∀x:UInt8,q72 x=false→c≠x:=fun x hx e=>(by rw[e,hx]at h;cases h);refine⟨?_,e _ rfl,e _ rfl,e _ rfl,e _ rfl,e _ rfl,e _ rfl,e _ rfl,e _ rfl⟩;unfold j13;simp[e 32 rfl,e 9 rfl,e 10 rfl,e 13 rfl]
theorem jo3:∀v:JV,∃c t,jwr v=c ::t∧j13 c=false∧c≠93∧c≠125
 | .mk k i t l ks=>by
  rw[jwr]
  repeat' split
  ·exact⟨_,_,rfl,by decide⟩
  ·exact⟨_,_,rfl,by decide⟩
  ·exact⟨_,_,rfl,by decide⟩
  ·obtain⟨c,u,e,h⟩:=je6 (i:=i)
   exact⟨c,u,e,(qy9 h).1,(qy9 h).2.1,(qy9 h).2.2.1⟩
  ·exact⟨_,_,rfl,by decide⟩
  ·exact⟨_,_,rfl,by decide⟩
  ·exact⟨_,_,rfl,by decide⟩
theorem ql1 {c:UInt8} {t:List UInt8} (h:j13 c=false):jsp (c ::t)=c ::t:=by simp[jsp,List.dropWhile,h]
theorem z57 (obj:Bool) (x:JV) (l:List JV) (ks:List ByteArray):∃c t,q42 obj (x ::l) ks=c ::t∧j13 c=false∧c≠(if obj then 125 else 93):=by
 rw[q42];cases obj with
 | true=>exact⟨34,_,rfl,by decide⟩
 | false=>obtain⟨c,t,e,h1,h2,h3⟩:=jo3 x;exact⟨c,t++ q62 false l ks.tail,by simp[q73,e],h1,by simpa using h2⟩
theorem jr6 (x:ByteArray):tob x.data.toList=x:=by unfold tob;simp
theorem q94 {d:Nat} {k i:Int} {t:ByteArray} {l:List JV} {ks:List ByteArray} (h:q27 d (.mk k i t l ks)=true):
  0 < d∧(k=0∨k=1∨k=2∨k=3∨k=4∨k=5∨k=6)∧(k=3∨i=0)∧(k=4∨t.size=0)∧(k=5∨k=6∨l= [])∧(if k=6 then ks.length=l.length else ks= [])∧q61 (d - 1) l=true:=by
 rw[q27]at h;simp only[Bool.and_eq_true,Bool.or_eq_true,decide_eq_true_eq,List.isEmpty_iff]at h;obtain⟨⟨⟨⟨⟨⟨h1,h2⟩,h3⟩,h4⟩,h5⟩,h6⟩,h7⟩:=h;refine⟨h1,?_,h3,h4,?_,?_,h7⟩
 ·omega
 ·rcases h5 with(h5 | h5) | h5
  ·exact .inl h5
  ·exact .inr (.inl h5)
  ·exact .inr (.inr h5)
 ·split at h6
  ·rename_i hk;rw[if_pos hk];simpa using h6
  ·rename_i hk;rw[if_neg hk];simpa using h6
theorem qp6 {t:ByteArray} (h:t.size=0):t=⟨#[]⟩:=by
 have:t.data.size=0:=h;cases t with
 | mk d=>simp at this;rw[this]
theorem jn1 (obj:Bool) (ks:List ByteArray) (r:List UInt8):qh5 obj (q73 obj ks++ r)=.ok (if obj then [(ks.headD ⟨#[]⟩).data.toList]else []) r:=by
 cases obj with
 | false=>rfl
 | true=>unfold qh5 q73;simp only[if_true];have e:jsp (quo (ks.headD ⟨#[]⟩).data.toList++ [58]++ r)=quo (ks.headD ⟨#[]⟩).data.toList++ 58 ::r:=(by rw[List.append_assoc];exact ql1 (by decide));unfold ji6;rw[e,jf];simp only[PR.bind];rw[ql1 (by decide)];rfl
mutual
theorem jx4:∀(v:JV) (d:Nat) (r:List UInt8),q27 d v=true→qh7 v=true→r.head?.any q72=false→q08 d (jwr v++ r)=.ok v (jsp r)
 | .mk k i t l ks,d,r,h,hr,hd=>by
  obtain⟨h1,h2,h3,h4,h5,h6,h7⟩:=q94 h
  obtain⟨d,rfl⟩:∃e,d=e+1:=⟨d - 1,by omega⟩
  obtain⟨c,u,e,hc,_⟩:=jo3 (.mk k i t l ks)
  have esp:jsp (jwr (.mk k i t l ks)++ r)=jwr (.mk k i t l ks)++ r:=by rw[e,List.cons_append,ql1 hc]
  rw[qh7,Bool.and_eq_true]at hr
  rw[q08,esp]
  have body:qi8 (q08 d) (jwr (.mk k i t l ks)++ r)=.ok (.mk k i t l ks) r:=by
   rw[jwr]
   by_cases k0:k=0
   ·subst k0
    simp only[show ¬(0:Int)=6 by decide,if_false,show ¬((0:Int)=5)by decide,show ¬((0:Int)=4)by decide,show ¬((0:Int)=3)by decide,false_or]at h3 h4 h5 h6
    subst h3 h5 h6
    obtain rfl:=qp6 h4
    rfl
   by_cases k1:k=1
   ·subst k1
    simp only[show ¬(1:Int)=6 by decide,if_false,show ¬((1:Int)=5)by decide,show ¬((1:Int)=4)by decide,show ¬((1:Int)=3)by decide,false_or]at h3 h4 h5 h6
    subst h3 h5 h6
    obtain rfl:=qp6 h4
    rfl
   by_cases k2:k=2
   ·subst k2
    simp only[show ¬(2:Int)=6 by decide,if_false,show ¬((2:Int)=5)by decide,show ¬((2:Int)=4)by decide,show ¬((2:Int)=3)by decide,false_or]at h3 h4 h5 h6
    subst h3 h5 h6
    obtain rfl:=qp6 h4
    rfl
   rw[if_neg k0,if_neg k1,if_neg k2]
   by_cases k3:k=3
   ·subst k3
    simp only[show ¬(3:Int)=6 by decide,if_false,show ¬((3:Int)=5)by decide,show ¬((3:Int)=4)by decide,false_or]at h4 h5 h6
    subst h5 h6
    obtain rfl:=qp6 h4
    rw[if_pos rfl]
    obtain⟨c,u,e,h⟩:=je6 (i:=i)
    obtain⟨g1,g2,g3,g4,g5,g6,g7,g8,g9⟩:=qy9 h
    have hn:=ji8 i (qo8 hr.1).1 (qo8 hr.1).2 r hd
    rw[e,List.cons_append]at hn ⊢
    unfold qi8
    simp only[List.head?_cons,Option.some.injEq,if_neg g4,if_neg g5,if_neg g6,if_neg g7,if_neg g8,if_neg g9,hn,PR.bind]
   rw[if_neg k3]
   by_cases k4:k=4
   ·subst k4
    simp only[show ¬(4:Int)=6 by decide,if_false,show ¬((4:Int)=5)by decide,show ¬((4:Int)=3)by decide,false_or]at h3 h5 h6
    subst h3 h5 h6
    rw[if_pos rfl]
    unfold qi8
    have ht:=jf t.data.toList r
    have eh:(quo t.data.toList++ r).head? =some 34:=rfl
    simp only[eh,Option.some.injEq,show ¬(34:UInt8)=110 by decide,show ¬(34:UInt8)=102 by decide,show ¬(34:UInt8)=116 by decide,if_false,if_true,ht,PR.bind,jr6]
   rw[if_neg k4]
   obtain rfl:i=0:=by omega
   obtain rfl:=qp6 (h4.resolve_left k4)
   have hjl:∀obj:Bool,(obj=true→ks.length=l.length)→(obj=false→ks= [])→q74 (q08 d) obj (q42 obj l ks++ (if obj then 125 else 93) ::r)=.ok (l,ks.map fun x=>x.data.toList) r:=by
    intro obj ho hno
    unfold q74
    cases l with
    | nil=>
     have hks:ks= []:=by
      cases obj with
      | true=>exact List.eq_nil_of_length_eq_zero (ho rfl)
      | false=>exact hno rfl
     subst hks
     rw[q42,List.nil_append,ql1 (by cases obj <;> decide)]
     simp only[List.head?_cons,if_true,List.tail_cons,List.map_nil]
    | cons x l=>
     obtain⟨c,t,e,g1,g2⟩:=z57 obj x l ks
     have:=z02 obj (x ::l) d ks r (by simp) h7 hr.2 ho hno
     rw[e,List.cons_append]at this ⊢
     rw[ql1 g1]
     simp only[List.head?_cons,Option.some.injEq,if_neg g2,this]
   by_cases k6:k=6
   ·subst k6
    rw[if_pos rfl]at h6 ⊢
    have:=hjl true (fun _=>h6) (fun h=>by cases h)
    simp only[if_true]at this
    unfold qi8
    simp only[List.cons_append,List.append_assoc,List.nil_append,List.head?_cons,Option.some.injEq,show ¬(123:UInt8)=110 by decide,show ¬(123:UInt8)=102 by decide,show ¬(123:UInt8)=116 by decide,show ¬(123:UInt8)=34 by decide,show ¬(123:UInt8)=91 by decide,if_false,if_true,List.tail_cons,this,PR.bind,List.map_map]
    congr 2
    simp[Function.comp_def,jr6]
   ·rw[if_neg k6]at h6 ⊢
    subst h6
    obtain rfl:k=5:=by omega
    have:=hjl false (fun h=>by cases h) (fun _=>rfl)
    simp only[Bool.false_eq_true,if_false]at this
    unfold qi8
    simp only[List.cons_append,List.append_assoc,List.nil_append,List.head?_cons,Option.some.injEq,show ¬(91:UInt8)=110 by decide,show ¬(91:UInt8)=102 by decide,show ¬(91:UInt8)=116 by decide,show ¬(91:UInt8)=34 by decide,if_false,if_true,List.tail_cons,this,PR.bind,List.map_nil]
  rw[body]
  rfl
theorem z02 (obj:Bool):∀(l:List JV) (d:Nat) (ks:List ByteArray) (r:List UInt8),l≠ []→q61 d l=true→qc7 l=true→(obj=true→ks.length=l.length)→(obj=false→ks= [])→
  q89 (q08 d) obj (q42 obj l ks++ (if obj then 125 else 93) ::r)=.ok (l,ks.map fun x=>x.data.toList) r
 | [],_,_,_,h,_,_,_,_=>absurd rfl h
 | x ::l,d,ks,r,_,hm,hr,ho,hno=>by
  rw[q61,Bool.and_eq_true]at hm
  rw[qc7,Bool.and_eq_true]at hr
  rw[qu3 (Good.value d),q42]
  unfold qv7
  rw[List.append_assoc,List.append_assoc,jn1]
  simp only[PR.bind]
  have hkeys:(if obj then [(ks.headD ⟨#[]⟩).data.toList]else [])++ ks.tail.map (fun x:ByteArray=>x.data.toList)=ks.map fun x=>x.data.toList:=by
   cases obj with
   | false=>rw[hno rfl];rfl
   | true=>
    cases ks with
    | nil=>have:=ho rfl;simp at this
    | cons k ks=>rfl
  cases l with
  | nil=>
   have hv:=jx4 x d ((if obj then 125 else 93) ::r) hm.1 hr.1 (by cases obj <;> rfl)
   rw[ql1 (by cases obj <;> decide)]at hv
   rw[q62,List.nil_append,hv]
   have ht:ks.tail= []:=by
    cases obj with
    | false=>rw[hno rfl];rfl
    | true=>
     have:=ho rfl
     cases ks with
     | nil=>rfl
     | cons k ks=>simp at this;simp[this]
   rw[ht]at hkeys
   simp only[List.map_nil,List.append_nil]at hkeys
   simp only[q19,beq_self_eq_true,Bool.or_true,if_true,PR.bind,hkeys]
  | cons y l=>
   have e:q62 obj (y ::l) ks.tail=44 ::q42 obj (y ::l) ks.tail:=by rw[q62,q42]
   have hv:=jx4 x d (44 ::(q42 obj (y ::l) ks.tail++ (if obj then 125 else 93) ::r)) hm.1 hr.1 rfl
   rw[ql1 (by decide)]at hv
   rw[e,List.cons_append,hv]
   have hq:=z02 obj (y ::l) d ks.tail r (by simp) hm.2 hr.2 (fun h=>by have:=ho h;simp at this ⊢;omega) (fun h=>by rw[hno h];rfl)
   have e44:(44==(if obj then 125 else 93:UInt8))=false:=by cases obj <;> decide
   simp only[q19,beq_self_eq_true,Bool.true_or,if_true,e44,Bool.false_eq_true,if_false,PR.bind,hq,hkeys]
end
theorem ze5 {v:JV} (h:q27 8 v=true) (hr:qh7 v=true):q81 (jwr v)=(v,0,0):=by have:=jx4 v 8 [] h hr rfl;rw[List.append_nil]at this;unfold q81;rw[this];rfl
theorem q53 {α β:Type} {x:PR α} {f:α→Pa β} {v:β} {r:List UInt8} (h:x.bind f=.ok v r):∃a k,x=.ok a k∧f a k=.ok v r:=by
 cases x with
 | er e=>cases h
 | ok a k=>exact⟨a,k,rfl,h⟩
theorem jv3 {s r:List UInt8} {i:Int} (h:q39 s=.ok i r):j48 i=true:=by
 unfold q39 at h;cases hs:qp0 s with
 | er e=>rw[hs]at h;cases h
 | ok x k=>
  rw[hs]at h;simp only at h;by_cases hc: -9223372036854775808≤qa7 x∧qa7 x < 9223372036854775808
  ·rw[if_pos hc]at h;cases h;unfold j48;simpa using hc
  ·rw[if_neg hc]at h;cases h
end Go.Proofs.YtlfjhgamlkbofaaGreatDoor.Js
namespace Go.Proofs.YtlfjhgamlkbofaaGreatDoor
open Go.RowKit Js Go.Sort
mutual
def JN.sz:JN→Nat
 | .mk _ _ _ _ _ l _ _ _=>1+JN.szs l
def JN.szs:List JN→Nat
 | []=>0
 | x ::l=>x.sz+JN.szs l
end
theorem JN.szs_mem:∀ {l:List JN} {x:JN},x∈l→x.sz≤JN.szs l
 | [],x,h=>by cases h
 | y ::l,x,h=>by
  rw[JN.szs]
  rcases List.mem_cons.1 h with rfl | h
  ·omega
  ·have:=JN.szs_mem h;omega
theorem qt1 (a:ByteArray):(a.toList==a.toList)=true:=by simp
theorem jx1 (a b:ByteArray):(a.toList==b.toList)=decide (a=b):=by
 by_cases h:a=b
 ·subst h;rw[qt1];simp
 ·rw[qa3 h,decide_eq_false h]
theorem q90 {α:Type} {l:List α} {j:Nat} {x:α} (h:l[j]? =some x):l.take (j+1)=l.take j++ [x]:=by obtain⟨h1,h2⟩:=List.getElem?_eq_some_iff.1 h;rw[List.take_add_one,h];rfl
theorem je2 (w:World) (A B:Option Addr) (c d:Nat) (l m:List ByteArray) (hl:KeysAt w A l) (hm:KeysAt w B m) (hn:l.length≤q99) (hk:m.length≤q99):
  Calls Tryz.prog 64 #[.slice A l.length c,.slice B m.length d] w fun e w'=>e=.returned (.bool (decide (l=m)))∧Mod [] w w':=by
 unfold q99 at hn hk;by_cases hne:l.length=m.length
 ·obtain⟨n,hln⟩:∃n,l.length=n:=⟨_,rfl⟩;have hmn:m.length=n:=(by omega);have HLn:=q00 hln;have HMn:=q00 hmn;have HL:=q00 hl;have HM:=q00 hm;rw[hln,hmn];rw[hln]at hn;clear hne hln hmn hl hm hk;have t1:((n:Int) !=n)=false:=(by simp);go_enter Tryz.func64,Tryz.ntmps64;go_wp2_with fail;go_loopw [13] (fun iv wr=>∃(i:Nat),i≤n∧iv=.int .i64 (i:Int)∧Hid (l.take i=m.take i)∧Hid (Mod [] w wr)) (fun iv _=>n - (intOf iv).toNat)
  case atStart=>exact⟨0,by omega,rfl,q00 rfl,q00 (Mod.refl _ _)⟩
  case round=>
   obtain⟨i,hi,rfl,htk,hmi⟩:=hrel;by_cases h2:i < n
   ·obtain⟨u,hu⟩:∃u,l[i]? =some u:=⟨_,List.getElem?_eq_getElem (by have:=HLn.out;omega)⟩;obtain⟨v,hv⟩:∃v,m[i]? =some v:=⟨_,List.getElem?_eq_getElem (by have:=HMn.out;omega)⟩;obtain⟨g,o,rfl,hg,hc⟩:=(HL.out.new hmi.out).at_ hu;obtain⟨g',o',rfl,hg',hc'⟩:=(HM.out.new hmi.out).at_ hv;have hii:(i:Int) < n:=(by omega);have a1:IntKind.i64.wrap ((i:Int)+1)=(i:Int)+1:=IntWalk.i64_in _ (by omega);by_cases huv:u=v
    ·subst huv;have g3:=qt1 u;have HT:Hid (l.take (i+1)=m.take (i+1)):=q00 (by rw[q90 hu,q90 hv,htk.out]);clear hu hv htk;go_wp2_with fail;go_quiet (fail);go_wp2_with fail;refine⟨?rel,?measure⟩
     case rel=>exact⟨i+1,by omega,by go_num,HT,q00 (hmi.out.drewN nq)⟩
     case measure=>simp[intOf];omega
    ·have g3:=qa3 huv;have HE:Hid (decide (l=m)=false):=q00 (decide_eq_false (fun e=>huv (by rw[e,hv]at hu;exact(Option.some.inj hu).symm)));clear hu hv htk;go_wp2_with fail;go_quiet (fail);go_wp2_with fail;go_ret;exact⟨by rw[HE.out];rfl,hmi.out.drewN nq⟩
   ·have hin:i=n:=(by omega);subst hin;have HE:Hid (decide (l=m)=true):=q00 (decide_eq_true (by have:=htk.out;rw[List.take_of_length_le (by rw[HLn.out];exact Nat.le_refl _),List.take_of_length_le (by rw[HMn.out];exact Nat.le_refl _)]at this;exact this));clear htk;go_wp2_with fail;go_ret;exact⟨by rw[HE.out];rfl,hmi.out⟩
 ·have HE:Hid (decide (l=m)=false):=q00 (decide_eq_false (fun e=>hne (by rw[e])));have t1:((l.length:Int) !=m.length)=true:=(by rw[bne_iff_ne];omega);clear hl hm hne;go_enter Tryz.func64,Tryz.ntmps64;go_wp2_with fail;go_ret;exact⟨by rw[HE.out];rfl,Mod.refl _ _⟩
def j6 (d:Nat):Prop:=∀(w:World) (x:JN),JIn w x→
 Calls Tryz.prog 98 #[.agg x.cells,.int .i64 (9 - (d:Int))] w fun e w'=>e=.returned (.bool (q27 d x.v))∧Mod [] w w'
theorem qh6:∀(d:Nat) (l:List JV),q61 d l=true↔∀x∈l,q27 d x=true
 | d,[]=>by simp[q61]
 | d,x ::l=>by rw[q61,Bool.and_eq_true,qh6 d l];simp
theorem z50 {d:Nat} {l:List JN} {j:Nat} {x:JN} (h:l[j]? =some x) (hb:q27 d x.v=false):q61 d (JN.vs l)=false:=by
 cases hm:q61 d (JN.vs l)with
 | false=>rfl
 | true=>have:=(qh6 d _).1 hm x.v (List.mem_of_getElem? (i:=j) (by rw[JN.vs_at,h];rfl));rw[hb]at this;cases this
theorem z49 {d:Nat} {l:List JN} (h:∀(j:Nat) (x:JN),l[j]? =some x→q27 d x.v=true):q61 d (JN.vs l)=true:=by
 rw[qh6];intro v hv;obtain⟨j,hj⟩:=List.mem_iff_getElem?.1 hv;rw[JN.vs_at]at hj;cases hx:l[j]? with
 | none=>rw[hx]at hj;cases hj
 | some x=>rw[hx]at hj;cases hj;exact h j x hx
theorem zh2:j6 0:=by intro w x hx;obtain⟨xk,xi,xt,xA,xc,xl,xB,xd,xs⟩:=x;have hr:q27 0 (JN.mk xk xi xt xA xc xl xB xd xs).v=false:=(by rw[JN.v,q27];simp);rw[hr,show(9:Int) - ((0:Nat):Int)=9 from rfl];unfold JN.cells;clear hx hr;go_enter Tryz.func98,Tryz.ntmps98;go_wp2_with fail;go_ret;exact⟨rfl,((Mod.refl [] w).alloc _).alloc _⟩
theorem zh3 (d:Nat) (hd:d≤8) (hM:j6 d) (w:World) (x:JN) (hx:JIn w x) (p:Nat) (hp:p < w.heap.size) (hc:w.cell? ⟨p,0,none⟩=some (.int .i64 (8 - (d:Int)))) (b:Bool) (hb:q27 d x.v=b):
  Calls Tryz.prog 128 #[.agg x.cells,.pointer (some ⟨p,0,none⟩)] w fun e w'=>e=.returned (.bool (!b))∧Mod [] w w':=by
 obtain⟨xk,xi,xt,xA,xc,xl,xB,xd,xs⟩:=x;have HS:=q00 (fun w' (m:Mod [] w w')=>hM w' (JN.mk xk xi xt xA xc xl xB xd xs) (hx.new m));rw[hb]at HS;unfold JN.cells at HS ⊢;have a1:IntKind.i64.wrap ((8 - (d:Int))+1)=9 - (d:Int):=(by rw[IntWalk.i64_in _ (by omega)];omega);have HM:=q00 ((Mod.refl [] w).alloc (.cells #[.int .i64 xk,.int .i64 xi,.string xt,.slice xA xl.length xc,.slice xB xs.length xd] 43));have lp:p≠w.heap.size:=(by omega);have hc2:(w.alloc (.cells #[.int .i64 xk,.int .i64 xi,.string xt,.slice xA xl.length xc,.slice xB xs.length xd] 43)).cell? ⟨p,0,none⟩=some (.int .i64 (8 - (d:Int))):=(((Mod.refl [] w).alloc _).cell (p:=⟨p,0,none⟩) hp (by simp)).trans hc;have lp2:p < (w.alloc (.cells #[.int .i64 xk,.int .i64 xi,.string xt,.slice xA xl.length xc,.slice xB xs.length xd] 43)).heap.size:=(by rw[World.size_alloc];omega);clear hb hx hM;go_enter Tryz.func128,Tryz.ntmps128;go_wp2_with fail;refine(HS.out _ HM.out).mono ?_;rintro e w3 ⟨rfl,m3⟩;have HM3:=q00 (HM.out.trans m3 (by simp));clear m3;go_wp2_with fail;go_ret;exact⟨rfl,HM3.out⟩
theorem zh0 (d:Nat) (hd:d≤8) (hM:j6 d) (w:World) (A:Option Addr) (c:Nat) (l:List JN) (hl:RowAt w A l) (hli:JIns w l) (hn:l.length≤q99) (p:Nat) (hp:p < w.heap.size) (hc:w.cell? ⟨p,0,none⟩=some (.int .i64 (8 - (d:Int)))):
  Calls Tryz.prog 165 #[.slice A l.length c,.func (Fn.func 128) #[] #[.pointer (some ⟨p,0,none⟩)]] w fun e w'=>∃i:Int,e=.returned (.int .i64 i)∧decide (i≥0)=(!q61 d (JN.vs l))∧Mod [] w w':=by
 unfold q99 at hn;obtain⟨q,hlq⟩:∃q,l.length=q:=⟨_,rfl⟩;have HLn:=q00 hlq;have HL:=q00 hl;have HLi:=q00 hli;have HC:=q00 (fun w' (m:Mod [] w w') (x:JN) (hx:JIn w' x) (b:Bool) (hb:q27 d x.v=b)=>zh3 d hd hM w' x hx p (Nat.lt_of_lt_of_le hp m.size) ((m.cell (p:=⟨p,0,none⟩) hp (by simp)).trans hc) b hb);rw[hlq];rw[hlq]at hn;clear hlq hl hli hM hc;go_enter Tryz.func165,Tryz.ntmps165;go_wp2_with fail;go_loopw [5,8] (fun s5 iv wr=>∃(i:Nat),i≤q∧iv=.int .i64 (i:Int)∧Hid (∀(j:Nat) (x:JN),j < i→l[j]? =some x→q27 d x.v=true)∧Hid (Mod [] w wr)) (fun _ iv _=>q - (intOf iv).toNat)
 case atStart=>exact⟨0,by omega,rfl,q00 (fun j x h=>absurd h (Nat.not_lt_zero _)),q00 (Mod.refl _ _)⟩
 case round=>
  obtain⟨i,hi,rfl,htk,hmi⟩:=hrel;by_cases h2:i < q
  ·obtain⟨u,hu⟩:∃u,l[i]? =some u:=⟨_,List.getElem?_eq_getElem (by have:=HLn.out;omega)⟩;obtain⟨g,o,rfl,hg,hc⟩:=(HL.out.new hmi.out).at_ hu;have hii:(i:Int) < q:=(by omega);have a1:IntKind.i64.wrap ((i:Int)+1)=(i:Int)+1:=IntWalk.i64_in _ (by omega);obtain⟨b,hb⟩:∃b,q27 d u.v=b:=⟨_,rfl⟩;have HS1:=q00 (HC.out _ hmi.out u ((HLi.out.at_ hu).new hmi.out) b hb)
   have HT:Hid (b=true→∀(j:Nat) (x:JN),j < i+1→l[j]? =some x→q27 d x.v=true):=q00 (fun hbt j x hj hx=>by
    by_cases e:j=i
    ·subst e;rw[hu]at hx;cases hx;rw[hb,hbt]
    ·exact htk.out j x (by omega) hx)
   have HE:Hid (b=false→q61 d (JN.vs l)=false):=q00 (fun hbf=>z50 hu (by rw[hb,hbf]));obtain⟨xk,xi,xt,xA,xc,xl,xB,xd,xs⟩:=u;have y0:wr.cell? ⟨g,o+i * 5,none⟩=some (.int .i64 xk):=hc 0 _ rfl;have y1:wr.cell? ⟨g,o+i * 5+1,none⟩=some (.int .i64 xi):=hc 1 _ rfl;have y2:wr.cell? ⟨g,o+i * 5+2,none⟩=some (.string xt):=hc 2 _ rfl;have y3:wr.cell? ⟨g,o+i * 5+3,none⟩=some (.slice xA xl.length xc):=hc 3 _ rfl;have y4:wr.cell? ⟨g,o+i * 5+4,none⟩=some (.slice xB xs.length xd):=hc 4 _ rfl;unfold JN.cells at HS1;clear hu hc htk hb;go_wp2_with fail;refine HS1.out.mono ?_;rintro e w2 ⟨rfl,m2⟩;have HM2:=q00 (hmi.out.trans m2 (by simp));clear m2;cases b with
   | true=>
    have HT2:=q00 (HT.out rfl);go_wp2_with fail;refine⟨?rel,?measure⟩
    case rel=>exact⟨i+1,by omega,by go_num,HT2,HM2⟩
    case measure=>simp[intOf];omega
   | false=>have HE2:=q00 (HE.out rfl);go_wp2_with fail;go_ret;exact⟨(i:Int),rfl,by rw[HE2.out];simp,HM2.out⟩
  ·have hin:i=q:=(by omega);subst hin;have HE:Hid (q61 d (JN.vs l)=true):=q00 (z49 (fun j x hj=>htk.out j x (by have:=(List.getElem?_eq_some_iff.1 hj).1;have:=HLn.out;omega) hj));clear htk;go_wp2_with fail;go_ret;exact⟨-1,rfl,by rw[HE.out];rfl,hmi.out⟩
theorem zh (d:Nat) (hd:d≤8) (hM:j6 d) (w:World) (A:Option Addr) (c:Nat) (l:List JN) (hl:RowAt w A l) (hli:JIns w l) (hn:l.length≤q99) (p:Nat) (hp:p < w.heap.size) (hc:w.cell? ⟨p,0,none⟩=some (.int .i64 (8 - (d:Int)))):
  Calls Tryz.prog 127 #[.slice A l.length c,.func (Fn.func 128) #[] #[.pointer (some ⟨p,0,none⟩)]] w fun e w'=>e=.returned (.bool (!q61 d (JN.vs l)))∧Mod [] w w':=by
 have H:=q00 (zh0 d hd hM w A c l hl hli hn p hp hc);clear hM hl hli hn hc;go_enter Tryz.func127,Tryz.ntmps127;go_wp2_with fail;refine H.out.mono ?_;rintro e w2 ⟨i,rfl,hi,m2⟩;have HI:=q00 hi;have HM2:=q00 m2;clear hi m2;go_wp2_with fail;go_ret;exact⟨by rw[←HI.out];rfl,HM2.out⟩
theorem qi6 {α:Type} [DecidableEq (List α)] (l:List α):l.isEmpty=decide (l= []):=by cases l <;> simp
theorem ze (d:Nat) (k i:Int) (t:ByteArray) (l:List JV) (ks:List ByteArray) (oi:Int) (ot:ByteArray) (n m:Nat)
  (h:((k=0∨k=1∨k=2)∧oi=0∧ot=⟨#[]⟩∧n=0∧m=0)∨(k=3∧oi=i∧ot=⟨#[]⟩∧n=0∧m=0)∨(k=4∧oi=0∧ot=t∧n=0∧m=0)∨(k=5∧oi=0∧ot=⟨#[]⟩∧n=l.length∧m=0)∨(k=6∧oi=0∧ot=⟨#[]⟩∧n=l.length∧m=ks.length)):
  q27 (d+1) (.mk k i t l ks)=(decide (i=oi) && decide (t=ot) && decide (l.length=n) && decide (ks.length=m) && (decide (m=0) || decide (m=n)) && (decide (k≠6) || decide (ks.length=l.length)) && q61 d l):=by
 have ht:(t=⟨#[]⟩)↔t.size=0:=by
  constructor
  ·rintro rfl;rfl
  ·intro h;apply ByteArray.ext;exact Array.eq_empty_of_size_eq_zero h
 rcases h with⟨hk,rfl,rfl,rfl,rfl⟩ | ⟨rfl,rfl,rfl,rfl,rfl⟩ | ⟨rfl,rfl,rfl,rfl,rfl⟩ | ⟨rfl,rfl,rfl,rfl,rfl⟩ | ⟨rfl,rfl,rfl,rfl,rfl⟩
 ·rcases hk with rfl | rfl | rfl <;> cases l <;> simp[q27,ht,Bool.and_assoc,eq_comm,qi6]
 ·cases l <;> simp[q27,ht,Bool.and_assoc,eq_comm,qi6]
 ·cases l <;> simp[q27,ht,Bool.and_assoc,eq_comm,qi6]
 ·simp[q27,ht,Bool.and_assoc,eq_comm,qi6]
 ·by_cases h:ks.length=l.length <;> simp[q27,ht,Bool.and_assoc,eq_comm,qi6,h]
theorem zh1 (d:Nat) (hd:d+1≤8) (hM:j6 d):j6 (d+1):=by
 intro w x hx;obtain⟨xk,xi,xt,xA,xc,xl,xB,xd,xs⟩:=x;rw[JIn]at hx;obtain⟨⟨hx1,hx2,_⟩,hx3,hx4,hx5⟩:=hx;rw[show(9:Int) - ((d+1:Nat):Int)=8 - d by omega];obtain⟨n,hn⟩:∃n,xl.length=n:=⟨_,rfl⟩;obtain⟨m,hm⟩:∃m,xs.length=m:=⟨_,rfl⟩;have HF:=q00 (fun w' (mm:Mod [] w w') (p:Nat) (hp:p < w'.heap.size) (hc:w'.cell? ⟨p,0,none⟩=some (.int .i64 (8 - (d:Int))))=>zh d (by omega) hM w' xA xc xl (hx4.new mm) (hx5.new mm) hx1 p hp hc);have HO:=q00 (ze d xk xi xt (JN.vs xl) xs);rw[JN.vs_len,hn,hm]at HO;rw[hn]at HF;have hres:JN.v (JN.mk xk xi xt xA xc xl xB xd xs)=.mk xk xi xt (JN.vs xl) xs:=(by rw[JN.v]);rw[hres];simp only[JN.cells];rw[hn,hm];unfold q99 at hx1 hx2;rw[hn]at hx1;rw[hm]at hx2;obtain⟨R,hR⟩:∃R,q27 (d+1) (.mk xk xi xt (JN.vs xl) xs)=R:=⟨_,rfl⟩;rw[hR]at HO ⊢;obtain⟨bs,hbs⟩:∃b,q61 d (JN.vs xl)=b:=⟨_,rfl⟩;rw[hbs]at HO HF;have HKx:=q00 hR;clear hM hx3 hx4 hx5 hn hm hres hR hbs;go_enter Tryz.func98,Tryz.ntmps98;go_upto_block 0 with fail;have hM0:=q00 ((((Mod.refl [] w).alloc (.cells #[.int .i64 xk,.int .i64 xi,.string xt,.slice xA n xc,.slice xB m xd] 43)).alloc (.cells #[.int .i64 (8 - (d:Int))] 3)));have hB1:=q00 ((Blk.new w 43 #[.int .i64 xk,.int .i64 xi,.string xt,.slice xA n xc,.slice xB m xd]).alloc (.cells #[.int .i64 (8 - (d:Int))] 3));have hB2:=Blk.new (w.alloc (.cells #[.int .i64 xk,.int .i64 xi,.string xt,.slice xA n xc,.slice xB m xd] 43)) 3 #[.int .i64 (8 - (d:Int))];rw[World.size_alloc]at hB2;have hB2:=q00 hB2;have hB3:=q00 (fun oc=>by have h:=Blk.new ((w.alloc (.cells #[.int .i64 xk,.int .i64 xi,.string xt,.slice xA n xc,.slice xB m xd] 43)).alloc (.cells #[.int .i64 (8 - (d:Int))] 3)) 43 oc;rw[World.size_alloc,World.size_alloc]at h;exact h);go_cut [] (fun wx=>∃(oi:Int) (ot:ByteArray) (A':Option Addr) (c' n':Nat) (B':Option Addr) (d' m':Nat),Hid (Blk wx w.heap.size 43 #[.int .i64 xk,.int .i64 xi,.string xt,.slice xA n xc,.slice xB m xd])∧Hid (Blk wx (w.heap.size+1) 3 #[.int .i64 (8 - (d:Int))])∧Hid (Blk wx (w.heap.size+1+1) 43 #[.int .i64 xk,.int .i64 oi,.string ot,.slice A' n' c',.slice B' m' d'])∧Hid (Mod [] w wx)∧m'≤140737488355328∧n'≤140737488355328∧Hid (R=(decide (xi=oi) && decide (xt=ot) && decide (n=n') && decide (m=m') && (decide (m'=0) || decide (m'=n')) && (decide (xk≠6) || decide (m=n)) && bs)))
 case first=>
  by_cases hk0:xk=0
  ·subst hk0;have HR:=q00 (HO.out 0 ⟨#[]⟩ 0 0 (by simp));clear HO HF;go_wp2_with fail;go_meet
   case rel=>exact⟨0,⟨#[]⟩,none,0,0,none,0,0,q00 ((hB1.out.alloc _)),q00 ((hB2.out.alloc _)),q00 ((hB3.out _)),q00 ((hM0.out.alloc _)),by omega,by omega,q00 (by have h:=HR.out;simp at h ⊢;exact h)⟩
  by_cases hk1:xk=1
  ·subst hk1;have HR:=q00 (HO.out 0 ⟨#[]⟩ 0 0 (by simp));clear HO HF;go_wp2_with fail;go_meet
   case rel=>exact⟨0,⟨#[]⟩,none,0,0,none,0,0,q00 ((hB1.out.alloc _)),q00 ((hB2.out.alloc _)),q00 ((hB3.out _)),q00 ((hM0.out.alloc _)),by omega,by omega,q00 (by have h:=HR.out;simp at h ⊢;exact h)⟩
  by_cases hk2:xk=2
  ·subst hk2;have HR:=q00 (HO.out 0 ⟨#[]⟩ 0 0 (by simp));clear HO HF;go_wp2_with fail;go_meet
   case rel=>exact⟨0,⟨#[]⟩,none,0,0,none,0,0,q00 ((hB1.out.alloc _)),q00 ((hB2.out.alloc _)),q00 ((hB3.out _)),q00 ((hM0.out.alloc _)),by omega,by omega,q00 (by have h:=HR.out;simp at h ⊢;exact h)⟩
  by_cases hk3:xk=3
  ·subst hk3;have HR:=q00 (HO.out xi ⟨#[]⟩ 0 0 (by simp));clear HO HF;go_wp2_with fail;go_meet
   case rel=>exact⟨xi,⟨#[]⟩,none,0,0,none,0,0,q00 ((hB1.out.alloc _)),q00 ((hB2.out.alloc _)),q00 ((hB3.out _)),q00 ((hM0.out.alloc _)),by omega,by omega,q00 (by have h:=HR.out;simp at h ⊢;exact h)⟩
  by_cases hk4:xk=4
  ·subst hk4;have HR:=q00 (HO.out 0 xt 0 0 (by simp));clear HO HF;go_wp2_with fail;go_meet
   case rel=>exact⟨0,xt,none,0,0,none,0,0,q00 ((hB1.out.alloc _)),q00 ((hB2.out.alloc _)),q00 ((hB3.out _)),q00 ((hM0.out.alloc _)),by omega,by omega,q00 (by have h:=HR.out;simp at h ⊢;exact h)⟩
  by_cases hk5:xk=5
  ·subst hk5;have HR:=q00 (HO.out 0 ⟨#[]⟩ n 0 (by simp));clear HO HF;go_wp2_with fail;go_meet
   case rel=>exact⟨0,⟨#[]⟩,xA,xc,n,none,0,0,q00 ((hB1.out.alloc _)),q00 ((hB2.out.alloc _)),q00 ((hB3.out _)),q00 ((hM0.out.alloc _)),by omega,by omega,q00 (by have h:=HR.out;simp at h ⊢;exact h)⟩
  by_cases hk6:xk=6
  ·subst hk6;have HR:=q00 (HO.out 0 ⟨#[]⟩ n m (by simp));clear HO HF;go_wp2_with fail;go_region;go_wp2_with fail;go_meet
   case rel=>exact⟨0,⟨#[]⟩,xA,xc,n,xB,xd,m,q00 ((hB1.out.alloc _).drew),q00 ((hB2.out.alloc _).drew),q00 ((hB3.out _).drew),q00 ((hM0.out.alloc _).drew),by omega,by omega,q00 (by have h:=HR.out;simp at h ⊢;exact h)⟩
  have HR:=HKx.out;rw[q27]at HR;simp only[hk0,hk1,hk2,hk3,hk4,hk5,hk6,decide_false,Bool.or_false,Bool.and_false,Bool.false_and]at HR;subst HR;have k0:(xk==0)=false:=(by simp[hk0]);have k1:(xk==1)=false:=(by simp[hk1]);have k2:(xk==2)=false:=(by simp[hk2]);have k3:(xk==3)=false:=(by simp[hk3]);have k4:(xk==4)=false:=(by simp[hk4]);have k5:(xk==5)=false:=(by simp[hk5]);have k6:(xk==6)=false:=(by simp[hk6]);clear HO HF HKx;go_wp2_with fail;go_ret;exact⟨rfl,hM0.out.alloc _⟩
 case rest=>
  obtain⟨oi,ot,A',c',n',B',d',m',hB4,hB5,hB6,hM4,hm',hn',hR⟩:=hcut;have x0:wc.cell? ⟨w.heap.size,0,none⟩=some (.int .i64 xk):=hB4.out.cell 0;have x1:wc.cell? ⟨w.heap.size,1,none⟩=some (.int .i64 xi):=hB4.out.cell 1;have x2:wc.cell? ⟨w.heap.size,2,none⟩=some (.string xt):=hB4.out.cell 2;have x3:wc.cell? ⟨w.heap.size,3,none⟩=some (.slice xA n xc):=hB4.out.cell 3;have x4:wc.cell? ⟨w.heap.size,4,none⟩=some (.slice xB m xd):=hB4.out.cell 4;have cD:wc.cell? ⟨w.heap.size+1,0,none⟩=some (.int .i64 (8 - (d:Int))):=hB5.out.cell 0;have lD:=hB5.out.lt;have y1:wc.cell? ⟨w.heap.size+1+1,1,none⟩=some (.int .i64 oi):=hB6.out.cell 1;have y2:wc.cell? ⟨w.heap.size+1+1,2,none⟩=some (.string ot):=hB6.out.cell 2;have y3:wc.cell? ⟨w.heap.size+1+1,3,none⟩=some (.slice A' n' c'):=hB6.out.cell 3;have y4:wc.cell? ⟨w.heap.size+1+1,4,none⟩=some (.slice B' m' d'):=hB6.out.cell 4;have hmf:∀(fn:Fn) (first cap:Array Value) (w:World),(Instr.makeFunc fn first cap).run Tryz.prog w=.ok (.func fn first cap) w:=fun _ _ _ _=>rfl;by_cases h1:xi=oi
  ·subst h1;have f1:(xi !=xi)=false:=(by simp);by_cases h2:xt=ot
   ·subst h2;have f2:=qt1 xt;have f2b:(xt.toList !=xt.toList)=false:=(by rw[bne,f2];rfl);by_cases h3:n=n'
    ·subst h3;have f3:((n:Int) !=n)=false:=(by simp);by_cases h4:m=m'
     ·subst h4;have f4:((m:Int) !=m)=false:=(by simp);by_cases h5:0 < m
      ·have p5:(0:Int) < (m:Int):=(by omega);by_cases h6:m=n
       ·subst h6;have f6:((m:Int) !=m)=false:=(by simp);by_cases h7:xk=6
        ·subst h7;have f7:((6:Int)==6)=true:=(by simp);have HE:Hid (R=bs):=q00 (by rw[hR.out];simp);clear hR hB4 hB5 hB6;go_wp2_with fail;refine(HF.out _ hM4.out _ lD cD).mono ?_;rintro e w3 ⟨rfl,m3⟩;have HM5:=q00 (hM4.out.trans m3 (by simp));clear m3 HF;go_wp2_with fail;go_ret;exact⟨by rw[HE.out];simp,HM5.out⟩
        ·have f7:(xk==6)=false:=(by simp[h7]);have HE:Hid (R=bs):=q00 (by rw[hR.out];simp[h7]);clear hR hB4 hB5 hB6 h7;go_wp2_with fail;refine(HF.out _ hM4.out _ lD cD).mono ?_;rintro e w3 ⟨rfl,m3⟩;have HM5:=q00 (hM4.out.trans m3 (by simp));clear m3 HF;go_wp2_with fail;go_ret;exact⟨by rw[HE.out];simp,HM5.out⟩
       ·have f6:((m:Int) !=n)=true:=(by simp;omega);have HE:Hid (R=false):=q00 (by rw[hR.out];simp[h6];omega);clear HF hR hB4 hB5 hB6 h6;go_wp2_with fail;go_ret;exact⟨by rw[HE.out];rfl,hM4.out⟩
      ·have p5b:decide ((0:Int) < (m:Int))=false:=decide_eq_false (by omega);have h5:m=0:=(by omega);by_cases h7:xk=6
       ·subst h7;have f7:((6:Int)==6)=true:=(by simp);by_cases h8:m=n
        ·subst h8;have f8:((m:Int) !=m)=false:=(by simp);have HE:Hid (R=bs):=q00 (by rw[hR.out];simp[h5]);clear hR hB4 hB5 hB6 h5;go_wp2_with fail;refine(HF.out _ hM4.out _ lD cD).mono ?_;rintro e w3 ⟨rfl,m3⟩;have HM5:=q00 (hM4.out.trans m3 (by simp));clear m3 HF;go_wp2_with fail;go_ret;exact⟨by rw[HE.out];simp,HM5.out⟩
        ·have f8:((m:Int) !=n)=true:=(by simp;omega);have HE:Hid (R=false):=q00 (by rw[hR.out];simp[h8]);clear HF hR hB4 hB5 hB6 h8 h5;go_wp2_with fail;go_ret;exact⟨by rw[HE.out];rfl,hM4.out⟩
       ·have f7:(xk==6)=false:=(by simp[h7]);have HE:Hid (R=bs):=q00 (by rw[hR.out];simp[h5,h7]);clear hR hB4 hB5 hB6 h5 h7;go_wp2_with fail;refine(HF.out _ hM4.out _ lD cD).mono ?_;rintro e w3 ⟨rfl,m3⟩;have HM5:=q00 (hM4.out.trans m3 (by simp));clear m3 HF;go_wp2_with fail;go_ret;exact⟨by rw[HE.out];simp,HM5.out⟩
     ·have f4:((m:Int) !=m')=true:=(by simp;omega);have HE:Hid (R=false):=q00 (by rw[hR.out];simp[h4]);clear HF hR hB4 hB5 hB6 h4;go_wp2_with fail;go_ret;exact⟨by rw[HE.out];rfl,hM4.out⟩
    ·have f3:((n:Int) !=n')=true:=(by simp;omega);have HE:Hid (R=false):=q00 (by rw[hR.out];simp[h3]);clear HF hR hB4 hB5 hB6 h3;go_wp2_with fail;go_ret;exact⟨by rw[HE.out];rfl,hM4.out⟩
   ·have f2:=qa3 h2;have f2b:(xt.toList !=ot.toList)=true:=(by rw[bne,f2];rfl);have HE:Hid (R=false):=q00 (by rw[hR.out];simp[h2]);clear HF hR hB4 hB5 hB6 h2;go_wp2_with fail;go_ret;exact⟨by rw[HE.out];rfl,hM4.out⟩
  ·have f1:(xi !=oi)=true:=(by simp[h1]);have HE:Hid (R=false):=q00 (by rw[hR.out];simp[h1]);clear HF hR hB4 hB5 hB6 h1;go_wp2_with fail;go_ret;exact⟨by rw[HE.out];rfl,hM4.out⟩
theorem z04:∀d,d≤8→j6 d
 | 0,_=>zh2
 | d+1,h=>zh1 d h (z04 d (by omega))
theorem jn6 (w:World) (x:JN) (hx:JIn w x) (b:Bool) (hb:q27 8 x.v=b):
  Calls Tryz.prog 63 #[.agg x.cells] w fun e w'=>e=.returned (.bool b)∧Mod [] w w':=by
 subst hb;have H:=q00 (fun w' (m:Mod [] w w')=>z04 8 (Nat.le_refl _) w' x (hx.new m));obtain⟨xk,xi,xt,xA,xc,xl,xB,xd,xs⟩:=x;have HM:=q00 ((Mod.refl [] w).alloc (.cells #[.int .i64 xk,.int .i64 xi,.string xt,.slice xA xl.length xc,.slice xB xs.length xd] 43));unfold JN.cells at H ⊢;clear hx;go_enter Tryz.func63,Tryz.ntmps63;go_wp2_with fail;refine(H.out _ HM.out).mono ?_;rintro e w3 ⟨rfl,m3⟩;have HM3:=q00 (HM.out.trans m3 (by simp));clear m3;go_wp2_with fail;go_ret;exact⟨rfl,HM3.out⟩
theorem jn7 {d:Nat} {k i:Int} {t:ByteArray} {l:List JV} {ks:List ByteArray} (h:q27 d (.mk k i t l ks)=true) (hk:k=6):ks.length=l.length:=by subst hk;rw[q27]at h;simp at h;exact h.1.2
end Go.Proofs.YtlfjhgamlkbofaaGreatDoor
namespace Go.Proofs.YtlfjhgamlkbofaaGreatDoor
open Go.RowKit Js
def ksz (ks:List ByteArray):Nat:=(ks.map ByteArray.size).sum
theorem zt3 (c:UInt8):(esc c).length≤6:=by
 unfold esc
 split
 ·simp
 ·split <;> simp
theorem j83:∀s:List UInt8,(s.flatMap esc).length≤6 * s.length
 | []=>by simp
 | c ::s=>by
  have h1:=j83 s
  have h2:=zt3 c
  rw[List.flatMap_cons,List.length_append,List.length_cons];omega
theorem ja5 (s:List UInt8):(quo s).length≤6 * s.length+2:=by have h1:=j83 s;rw[quo,List.length_cons,List.length_append,List.length_singleton];omega
theorem j55 {i:Int} (h:j48 i=true):(Lib.itoa i).length≤20:=by
 obtain⟨h1,h2⟩:=qo8 h;have key:∀(k u:Nat),u < 10 ^ (k+1)→(Lib.decDigits u).length≤k+1:=by
  intro k;induction k with
  | zero=>intro u hu;rw[Lib.decDigits,dif_pos (by omega)];simp
  | succ k ih=>
   intro u hu;rw[Lib.decDigits]
   split
   ·simp
   ·have:=ih (u / 10) (by rw[Nat.pow_succ]at hu;omega);simp only[List.length_append,List.length_cons,List.length_nil];omega
 unfold Lib.itoa
 split
 ·have:=key 18 i.natAbs (by rw[show(10:Nat) ^ (18+1)=10000000000000000000 from by decide];omega);simp only[List.length_cons];omega
 ·have:=key 18 i.toNat (by rw[show(10:Nat) ^ (18+1)=10000000000000000000 from by decide];omega);omega
theorem qz6 (ks:List ByteArray):(ks.headD ⟨#[]⟩).size+ksz ks.tail=ksz ks:=by
 cases ks with
 | nil=>simp[ksz];rfl
 | cons k ks=>simp[ksz]
theorem qu2 (obj:Bool) (ks:List ByteArray):(q73 obj ks).length≤6 * (ks.headD ⟨#[]⟩).size+3:=by
 unfold q73
 split
 ·have:=ja5 (ks.headD ⟨#[]⟩).data.toList;have e:(ks.headD ⟨#[]⟩).data.toList.length=(ks.headD ⟨#[]⟩).size:=Array.length_toList;rw[e]at this;simp only[List.length_append,List.length_cons,List.length_nil];omega
 ·simp
theorem jr5 (l:List UInt8):(tob l).data.toList=l:=by simp[tob]
theorem j97 (s:List UInt8):(jsp s).length≤s.length:=by
 unfold jsp;induction s with
 | nil=>simp
 | cons c t ih=>
  rw[List.dropWhile_cons]
  split
  ·simp only[List.length_cons];omega
  ·exact Nat.le_refl _
theorem zq8 (n:Nat):∀(s l r:List UInt8),jj n s=.ok l r→l.length+1+r.length≤s.length:=by
 induction n with
 | zero=>intro s l r h;cases h
 | succ n ih=>
  intro s l r h;rw[jj]at h;obtain⟨c,t,h1,ha⟩:=q53 h;clear h;obtain⟨rfl,_⟩:=q83 h1;by_cases hc:c=34
  ·rw[if_pos hc]at ha;cases ha;simp only[List.length_cons,List.length_nil];omega
  ·rw[if_neg hc]at ha;obtain⟨b,r1,h2,hb⟩:=q53 ha;obtain⟨l',r2,h3,he⟩:=q53 hb;cases he;have h4:=ih _ _ _ h3;have h5:=((Good.escq c).at_ t).le h2;simp only[List.length_cons];omega
theorem jr4 {s l r:List UInt8} (h:q92 s=.ok l r):l.length+2+r.length≤s.length:=by unfold q92 at h;obtain⟨c,t,h1,ha⟩:=q53 h;clear h;obtain⟨rfl,_⟩:=q83 h1;have:=zq8 _ _ _ _ ha;simp only[List.length_cons];omega
theorem zp0 {s l r:List UInt8} (h:ji6 s=.ok l r):l.length+3+r.length≤s.length:=by unfold ji6 at h;obtain⟨k,r1,h1,h⟩:=q53 h;obtain⟨c,r2,h2,h⟩:=q53 h;cases h;have h3:=jr4 h1;obtain⟨h4,_⟩:=q83 h2;have h5:=j97 s;have h6:=j97 r1;rw[h4]at h6;simp only[List.length_cons]at h6;omega
theorem j06:∀(w s r:List UInt8) (u:Unit),q86 w s=.ok u r→w.length+r.length≤s.length
 | [],s,r,u,h=>by cases h;simp
 | c ::w,s,r,u,h=>by
  rw[q86]at h
  obtain⟨d,t,h1,ha⟩:=q53 h
  clear h
  obtain⟨rfl,_⟩:=q83 h1
  have:=j06 w t r u ha
  simp only[List.length_cons];omega
theorem zw3 (f:UInt8→Bool) (s:List UInt8):(s.dropWhile f).length≤s.length:=by
 induction s with
 | nil=>simp
 | cons c t ih=>
  rw[List.dropWhile_cons]
  split
  ·simp only[List.length_cons];omega
  ·exact Nat.le_refl _
theorem jy8 {neg:Bool} {s l r:List UInt8} (h:qo9 neg s=.ok l r):1+r.length≤s.length:=by
 unfold qo9 at h;obtain⟨c,t,h1,ha⟩:=q53 h;clear h;obtain⟨rfl,_⟩:=q83 h1;have:=zw3 q72 t
 split at ha <;> cases ha <;> simp only[List.length_cons] <;> omega
theorem jv2 {s r:List UInt8} {i:Int} (h:q39 s=.ok i r):1+r.length≤s.length:=by
 unfold q39 at h;cases hs:qp0 s with
 | er e=>rw[hs]at h;cases h
 | ok x k=>
  rw[hs]at h;simp only at h;have hk:k=r:=by
   split at h
   ·cases h;rfl
   ·cases h
  subst hk;unfold qp0 at hs
  split at hs
  ·obtain⟨a,b,h1,h2⟩:=q53 hs;cases h2;have:=jy8 h1;simp only[List.length_tail]at this;omega
  ·obtain⟨a,b,h1,h2⟩:=q53 hs;cases h2;exact jy8 h1
def za1 (P:Pa JV):Prop:=∀s v r,P s=.ok v r→(jwr v).length+9+30 * r.length≤30 * s.length
theorem jf1 (obj:Bool) (l:List JV) (ks:List ByteArray):(q62 obj l ks).length≤(q42 obj l ks).length+1:=by
 cases l with
 | nil=>simp[q62]
 | cons x l=>rw[q62,q42];simp
theorem jf4 (obj:Bool) (k:List (List UInt8)) (s r:List UInt8) (h:qh5 obj s=.ok k r) (ks:List (List UInt8)):
  (q73 obj ((k++ ks).map tob)).length+30 * r.length≤30 * s.length∧(obj=true→((k++ ks).map tob).tail=ks.map tob)∧(obj=false→k= []):=by
 cases obj with
 | true=>unfold qh5 at h;simp only[if_true]at h;obtain⟨a,q,h1,h⟩:=q53 h;cases h;have h2:=zp0 h1;have h3:=ja5 a;refine⟨?_,(fun _=>rfl),(fun h=>by cases h)⟩;simp only[q73,if_true,List.cons_append,List.nil_append,List.map_cons,List.headD_cons,jr5,List.length_append,List.length_cons,List.length_nil];omega
 | false=>cases h;exact⟨by simp[q73],(fun h=>by cases h),(fun _=>rfl)⟩
theorem zg2 {P:Pa JV} (hg:Js.Good P) (hP:za1 P) (obj:Bool) (n:Nat):∀(s:List UInt8) (x:List JV×List (List UInt8)) (r:List UInt8),s.length < n→q89 P obj s=.ok x r→(q42 obj x.1 (x.2.map tob)).length+30 * r.length≤30 * s.length:=by
 induction n with
 | zero=>intro s x r h;omega
 | succ n ih=>
  intro s x r hl h;rw[qu3 hg]at h;unfold qv7 at h;obtain⟨k,r1,h1,ha⟩:=q53 h;obtain⟨v,r2,h2,hb⟩:=q53 ha;obtain⟨c,r3,h3,he⟩:=q53 hb;clear h ha hb;have m1:=hP _ _ _ h2;have l1:=((Good.front obj).at_ s).le h1;obtain⟨rfl,_⟩:=q83 h3;simp only[List.length_cons]at m1;by_cases hc:(c==(if obj then 125 else 93))=true
  ·rw[if_pos hc]at he;cases he;have h4:=(jf4 obj k s r1 h1 []).1;rw[List.append_nil]at h4;simp only[q42,q62,List.length_append,List.length_nil];omega
  ·rw[if_neg hc]at he;obtain⟨y,r4,h4,hf⟩:=q53 he;cases hf;have h5:=ih r3 y _ (by omega) h4;obtain⟨h6,h7,h8⟩:=jf4 obj k s r1 h1 y.2;simp only[q42,List.length_append];have h9:(q62 obj y.1 (List.map tob (k++ y.2)).tail).length≤(q42 obj y.1 (y.2.map tob)).length+1:=by
    cases obj with
    | true=>rw[h7 rfl];exact jf1 _ _ _
    | false=>
     rw[h8 rfl];have:∀(l:List JV) (a b:List ByteArray),(q62 false l a).length=(q62 false l b).length:=by
      intro l;induction l with
      | nil=>intro a b;simp[q62]
      | cons x l ih=>intro a b;simp only[q62,q73,Bool.false_eq_true,if_false,List.nil_append,List.length_cons,List.length_append,ih a.tail b.tail]
     rw[this _ _ (y.2.map tob)];exact jf1 _ _ _
   omega
theorem jp0 {P:Pa JV} (hg:Js.Good P) (hP:za1 P) {obj:Bool} {s r:List UInt8} {x:List JV×List (List UInt8)} (h:q74 P obj s=.ok x r):(q42 obj x.1 (x.2.map tob)).length+30 * r.length≤30 * s.length:=by
 unfold q74 at h;simp only at h;have h1:=j97 s;by_cases hc:(jsp s).head? =some (if obj then 125 else 93)
 ·rw[if_pos hc]at h;cases h;simp only[q42,List.length_nil,List.length_tail];omega
 ·rw[if_neg hc]at h;have:=zg2 hg hP obj _ _ _ _ (Nat.lt_succ_self _) h;omega
theorem jn3 {s:List UInt8} {c:UInt8} (h:s.head? =some c):s.length=s.tail.length+1:=by
 cases s with
 | nil=>cases h
 | cons a t=>rfl
theorem jl:∀(d:Nat),za1 (q08 d)
 | 0=>fun s v r h=>by cases h
 | d+1=>fun s v r h=>by
  rw[q08]at h
  obtain⟨w,k,h1,h⟩:=q53 h
  cases h
  have hs:=j97 s
  have hk:=j97 k
  unfold qi8 at h1
  repeat' split at h1
  ·obtain⟨_,_,hx,h⟩:=q53 h1;cases h
   have:=j06 _ _ _ _ hx
   simp only[List.length_cons,List.length_nil]at this
   simp[jwr];omega
  ·obtain⟨_,_,hx,h⟩:=q53 h1;cases h
   have:=j06 _ _ _ _ hx
   simp only[List.length_cons,List.length_nil]at this
   simp[jwr];omega
  ·obtain⟨_,_,hx,h⟩:=q53 h1;cases h
   have:=j06 _ _ _ _ hx
   simp only[List.length_cons,List.length_nil]at this
   simp[jwr];omega
  ·obtain⟨t,_,hx,h⟩:=q53 h1;cases h
   have h2:=jr4 hx
   have h3:=ja5 t
   have h4:jwr (.mk 4 0 (tob t) [] [])=quo t:=by rw[jwr,if_neg (by decide),if_neg (by decide),if_neg (by decide),if_neg (by decide),if_pos rfl,jr5]
   rw[h4];omega
  ·rename_i hh
   obtain⟨x,_,hx,h⟩:=q53 h1
   cases h
   have h2:=jp0 (Good.value d) (jl d) hx
   have h3:=jn3 hh
   rw[jwr,if_neg (by decide),if_neg (by decide),if_neg (by decide),if_neg (by decide),if_neg (by decide),if_neg (by decide)]
   simp only[List.length_cons,List.length_append,List.length_nil];omega
  ·rename_i hh
   obtain⟨x,_,hx,h⟩:=q53 h1
   cases h
   have h2:=jp0 (Good.value d) (jl d) hx
   have h3:=jn3 hh
   rw[jwr,if_neg (by decide),if_neg (by decide),if_neg (by decide),if_neg (by decide),if_neg (by decide),if_pos rfl]
   simp only[List.length_cons,List.length_append,List.length_nil];omega
  ·obtain⟨x,_,hx,h⟩:=q53 h1
   cases h
   have h2:=jv2 hx
   have h3:=j55 (jv3 hx)
   rw[jwr,if_neg (by decide),if_neg (by decide),if_neg (by decide),if_pos rfl]
   omega
theorem z54 {s:List UInt8} {v:JV} {a:Int} (h:q81 s=(v,a,0)):(jwr v).length+9≤30 * s.length:=by
 unfold q81 at h
 split at h
 ·rename_i v' hv;cases h;have:=jl _ _ _ _ hv;simp only[List.length_nil]at this;omega
 ·cases h
 ·cases h
end Go.Proofs.YtlfjhgamlkbofaaGreatDoor
namespace Go.Proofs.YtlfjhgamlkbofaaGreatDoor
open Go.RowKit
structure BW (w:World) (B b:Nat) (fp:Option Nat) (l:List UInt8):Prop where
 base:B≤b
 own:∃p v,Blk w b 102 #[p,v]∧(p=.pointer none∨p=.pointer (some ⟨b,0,none⟩))∧w.ownsRow B 5 1 v l.length (l.map bv)∧v.ownBlock=fp∧fp≠some b
theorem BW.new (w:World) (B:Nat) (hB:B≤w.heap.size):BW (w.alloc (.cells #[.pointer none,.slice none 0 0] 102)) B w.heap.size none []:=
 ⟨hB,_,_,heap_alloc_new w _,.inl rfl,World.ownsRow_nil _ _ _ _,rfl,by simp⟩
theorem BW.bld {w:World} {B b:Nat} {fp:Option Nat} {l:List UInt8} (h:BW w B b fp l):BldO w B b l:=by
 obtain⟨hB,p,v,hb,hp,ho,hv,hne⟩:=h;have ho':w.ownsRow B 5 1 v (l.map bv).length (l.map bv):=(by rw[List.length_map];exact ho);rcases hp with rfl | rfl
 ·exact .inl (Lib.BuilderAtF.of ⟨hB,v,hb,ho',by rw[hv];exact hne⟩)
 ·exact .inr (Lib.BuilderAtF.of ⟨hB,v,hb,ho',by rw[hv];exact hne⟩)
theorem BW.lt {w:World} {B b:Nat} {fp:Option Nat} {l:List UInt8} (h:BW w B b fp l):b < w.heap.size:=by obtain⟨hB,p,v,hb,_⟩:=h;exact Blk.lt hb
theorem BW.fp_lt {w:World} {B b:Nat} {fp:Option Nat} {l:List UInt8} (h:BW w B b fp l):∀k,fp=some k→B≤k∧k < w.heap.size:=by obtain⟨hB,p,v,hb,_,ho,hv,_⟩:=h;intro k hk;rw[hk]at hv;exact ho.lt k hv
theorem BW.mod {F:List Nat} {w w':World} {B b:Nat} {fp:Option Nat} {l:List UInt8} (h:BW w B b fp l) (m:Mod F w w') (h1:b∉F) (h2:∀k,fp=some k→k∉F):BW w' B b fp l:=by obtain⟨hB,p,v,hb,hp,ho,hv,hne⟩:=h;exact⟨hB,p,v,m.blk hb h1,hp,m.own ho (fun k hk=>h2 k (by rw[←hv];exact hk)),hv,hne⟩
theorem j65 (w:World) (B b:Nat) (fp:Option Nat) (l:List UInt8) (h:BW w B b fp l):
  Calls Tryz.prog 119 #[.pointer (some ⟨b,0,none⟩)] w fun e w'=>e=.returned (.tuple #[])∧(∃v,Blk w' b 102 #[.pointer (some ⟨b,0,none⟩),v]∧w'.ownsRow B 5 1 v l.length (l.map bv)∧v.ownBlock=fp)∧Mod [b] w w':=by
 obtain⟨hB,p,v,hb,hp,ho,hv,hne⟩:=h;have hlt:=Blk.lt hb;have ho':w.ownsRow B 5 1 v (l.map bv).length (l.map bv):=(by rw[List.length_map];exact ho);have hA:Lib.BuilderAt 102 5 B b p (l.map bv) w:=⟨hB,v,hb,ho',by rw[hv];exact hne⟩;rcases hp with rfl | rfl
 ·have hc:Calls Tryz.prog 119 #[.pointer (some ⟨b,0,none⟩)] w _:=Any.Builder_copyCheck_fresh { j66 with } bldX.toX72 b w hA.cell0 hA.shape hA.frozen0;refine hc.mono ?_;rintro e w' ⟨rfl,rfl⟩;refine⟨rfl,⟨v,(Blk.set_ hb 0 _),qg0 ho (fun k hk=> ?_) _,hv⟩,(Mod.refl _ _).setCell (.inl (by simp)) _⟩;rw[hv]at hk;intro e;exact hne (by rw[hk,e])
 ·have hc:Calls Tryz.prog 119 #[.pointer (some ⟨b,0,none⟩)] w _:=Any.Builder_copyCheck_used { j66 with } bldX.toX72 b w hA.cell0;refine hc.mono ?_;rintro e w' ⟨rfl,rfl⟩;exact⟨rfl,⟨v,hb,ho,hv⟩,Mod.refl _ _⟩
theorem j26 (w:World) (ty:TypeId) (B:Nat) (v:Value) (n:Nat) (xs:List Value) (s:ByteArray) (h:w.ownsRow B 5 1 v n xs) (hl:n+s.size≤140737488355328) (hB:B≤w.heap.size):
  ∃A c w',(Builtin.append_ #[100,9] ty #[v,.string s]).run Tryz.prog w=.ok (.slice A (n+s.size) c) w'∧
   w'.ownsRow B 5 1 (.slice A (n+s.size) c) (n+s.size) (xs++ s.data.toList.map bv)∧Mod v.ownBlock.toList w w'∧
   ((Value.slice A (n+s.size) c).ownBlock=v.ownBlock∨(Value.slice A (n+s.size) c).ownBlock=some w.heap.size):=by
 obtain⟨i0,hi,hz0,hz1,hz2⟩:=qw7 qx8;obtain⟨v',w',h1,h2,h3,h4⟩:=jk (P:=Tryz.prog) ty B hi hz1 rfl v n _ h (AppSrc.of_src Tryz.underlying100 hi hz0 hz1 (Src.ofString w Tryz.underlying9 s)) (by simp only[maxLen];omega) (by rw[hz2];omega) hB;obtain⟨A,c,rfl⟩:=qi9 h2;exact⟨A,c,w',h1,h2,Mod.of_grown h3,h4⟩
theorem j69 (w:World) (B b:Nat) (fp:Option Nat) (l:List UInt8) (c:UInt8) (h:BW w B b fp l) (hl:l.length+1≤140737488355328) (hB:B≤w.heap.size):
  Calls Tryz.prog 161 #[.pointer (some ⟨b,0,none⟩),.int .u8 (c.toNat:Int)] w fun e w'=>e=.returned .nilIface∧∃fp',BW w' B b fp' (l++ [c])∧(fp'=fp∨∃k,fp'=some k∧w.heap.size≤k)∧Mod (b ::fp.toList) w w':=by
 have hbase:=h.base;have hne:fp≠some b:=(by obtain⟨_,_,_,_,_,_,_,hne⟩:=h;exact hne);have hC:=q00 (j65 w B b fp l h);have hblt:=h.lt;clear h;go_enter Tryz.func161,Tryz.ntmps161;go_wp2_with fail;refine hC.out.mono ?_;rintro e w1 ⟨rfl,⟨v,hb,ho,hv⟩,m1⟩;obtain⟨A0,ca0,rfl⟩:=qi9 ho;have c0:w1.cell? ⟨b,0,none⟩=some (.pointer (some ⟨b,0,none⟩)):=hb.cell 0;have c1:w1.cell? ⟨b,1,none⟩=some (.slice A0 l.length ca0):=hb.cell 1;have hs1:=m1.size
 obtain⟨A,c',w2,hrun,hown,m2,hb2⟩:=qk0 (P:=Tryz.prog) Tryz.underlying100 qx8 rfl (w1.alloc (.cells #[.int .u8 (c.toNat:Int)] 5)) 100 B (.slice A0 l.length ca0) l.length _ (((Mod.refl [] _).alloc _).own ho (by simp)) (by simp;omega) [bv c] rfl (fun u hu=>by simp at hu;subst hu;rfl) (by omega) (by omega) w1.heap.size (fun j u hu=>by
  match j,hu with
  | 0,hu=>simp at hu;subst hu;simp[bv])
 have hvb:∀k,(Value.slice A0 l.length ca0).ownBlock=some k→k≠b:=fun k hk e=>hne (by rw[←hv,hk,e]);have hb2':Blk w2 b 102 #[.pointer (some ⟨b,0,none⟩),.slice A0 l.length ca0]:=m2.blk (hb.alloc _) (by rw[Option.mem_toList];exact fun hk=>hvb b hk rfl);have d0:w2.cell? ⟨b,0,none⟩=some (.pointer (some ⟨b,0,none⟩)):=hb2'.cell 0;have d1:w2.cell? ⟨b,1,none⟩=some (.slice A0 l.length ca0):=hb2'.cell 1;have f1:w2.frozen? ⟨b,1,none⟩=false:=hb2'.frozen 1;have hkb:∀k,(Value.slice A (l.length+1) c').ownBlock=some k→k≠b:=fun k hk=>by
  rcases hb2 with e | e
  ·exact hvb k (by rw[←e,hk])
  ·rw[e]at hk;cases hk;simp;omega
 have HB2:=q00 hb2';have HOwn:=q00 hown;have HM2:=q00 m2;have HM1:=q00 m1;have HFp:=q00 hb2;have HKb:=q00 hkb;have HRun:=q00 hrun;clear hb ho m1 hC hown m2 hb2 hkb hb2' hrun;go_wp2_with (at_builtin;refine Lib.wpList_append_run _ rfl (.tmp 11) (.tmp 13) 100 100 rfl (.slice A0 l.length ca0) (.slice (some ⟨w1.heap.size,0,none⟩) 1 1) rfl rfl _ w2 HRun.out ?_);go_ret;refine⟨rfl,(Value.slice A (l.length+1) c').ownBlock,⟨hbase,_,_,HB2.out.set_ 1 _,.inr rfl,?_,rfl,fun e=>HKb.out b e rfl⟩,?_,?_⟩
 ·rw[List.length_append,List.map_append];exact qg0 HOwn.out HKb.out _
 ·rcases HFp.out with e | e
  ·exact .inl (e.trans hv)
  ·exact .inr ⟨_,e,by simp;omega⟩
 ·refine Mod.setCell (((HM1.out.mono (fun x hx=>by simp at hx;subst hx;exact .inl (by simp))).alloc _).trans HM2.out (fun x hx=> .inl ?_)) (.inl (by simp)) _;rw[hv]at hx;exact List.mem_cons_of_mem _ hx
theorem jh9 (w:World) (B b:Nat) (fp:Option Nat) (l:List UInt8) (s:ByteArray) (h:BW w B b fp l) (hl:l.length+s.size≤140737488355328) (hB:B≤w.heap.size):
  Calls Tryz.prog 80 #[.pointer (some ⟨b,0,none⟩),.string s] w fun e w'=>e=.returned (.tuple #[.int .i64 s.size,.nilIface])∧∃fp',BW w' B b fp' (l++ s.data.toList)∧(fp'=fp∨∃k,fp'=some k∧w.heap.size≤k)∧Mod (b ::fp.toList) w w':=by
 have hbase:=h.base;have hne:fp≠some b:=(by obtain⟨_,_,_,_,_,_,_,hne⟩:=h;exact hne);have hC:=q00 (j65 w B b fp l h);have hblt:=h.lt;clear h;go_enter Tryz.func80,Tryz.ntmps80;go_wp2_with fail;refine hC.out.mono ?_;rintro e w1 ⟨rfl,⟨v,hb,ho,hv⟩,m1⟩;obtain⟨A0,ca0,rfl⟩:=qi9 ho;have c0:w1.cell? ⟨b,0,none⟩=some (.pointer (some ⟨b,0,none⟩)):=hb.cell 0;have c1:w1.cell? ⟨b,1,none⟩=some (.slice A0 l.length ca0):=hb.cell 1;have hs1:=m1.size;obtain⟨A,c',w2,hrun,hown,m2,hb2⟩:=j26 w1 100 B (.slice A0 l.length ca0) l.length _ s ho (by omega) (by omega);have hvb:∀k,(Value.slice A0 l.length ca0).ownBlock=some k→k≠b:=fun k hk e=>hne (by rw[←hv,hk,e]);have hb2':Blk w2 b 102 #[.pointer (some ⟨b,0,none⟩),.slice A0 l.length ca0]:=m2.blk hb (by rw[Option.mem_toList];exact fun hk=>hvb b hk rfl);have d0:w2.cell? ⟨b,0,none⟩=some (.pointer (some ⟨b,0,none⟩)):=hb2'.cell 0;have d1:w2.cell? ⟨b,1,none⟩=some (.slice A0 l.length ca0):=hb2'.cell 1;have f1:w2.frozen? ⟨b,1,none⟩=false:=hb2'.frozen 1;have hkb:∀k,(Value.slice A (l.length+s.size) c').ownBlock=some k→k≠b:=fun k hk=>by
  rcases hb2 with e | e
  ·exact hvb k (by rw[←e,hk])
  ·rw[e]at hk;cases hk;omega
 have HB2:=q00 hb2';have HOwn:=q00 hown;have HM2:=q00 m2;have HM1:=q00 m1;have HFp:=q00 hb2;have HKb:=q00 hkb;have HRun:=q00 hrun;clear hb ho m1 hC hown m2 hb2 hkb hb2' hrun;go_wp2_with (at_builtin;refine Lib.wpList_append_run _ rfl (.tmp 12) (.tmp 13) 100 9 rfl (.slice A0 l.length ca0) (.string s) rfl rfl _ w2 HRun.out ?_);go_ret2;refine⟨rfl,(Value.slice A (l.length+s.size) c').ownBlock,⟨hbase,_,_,HB2.out.set_ 1 _,.inr rfl,?_,rfl,fun e=>HKb.out b e rfl⟩,?_,?_⟩
 ·rw[List.length_append,List.map_append,q12];exact qg0 HOwn.out HKb.out _
 ·rcases HFp.out with e | e
  ·exact .inl (e.trans hv)
  ·exact .inr ⟨_,e,by omega⟩
 ·refine Mod.setCell ((HM1.out.mono (fun x hx=>by simp at hx;subst hx;exact .inl (by simp))).trans HM2.out (fun x hx=> .inl ?_)) (.inl (by simp)) _;rw[hv]at hx;exact List.mem_cons_of_mem _ hx
end Go.Proofs.YtlfjhgamlkbofaaGreatDoor
namespace Go.Proofs.YtlfjhgamlkbofaaGreatDoor
open Go.RowKit Js
theorem z90 {x:Int} {v:Value} (h:jc3 x=some v):∃b y:UInt8,x=(b.toNat:Int)∧v=.int .u8 (y.toNat:Int)∧qr0 y=some b:=by
 unfold jc3 upd at h
 split at h
 ·cases h;rename_i e;exact⟨92,92,e,rfl,by decide⟩
 split at h
 ·cases h;rename_i e;exact⟨34,34,e,rfl,by decide⟩
 split at h
 ·cases h;rename_i e;exact⟨114,13,e,rfl,by decide⟩
 split at h
 ·cases h;rename_i e;exact⟨102,12,e,rfl,by decide⟩
 split at h
 ·cases h;rename_i e;exact⟨110,10,e,rfl,by decide⟩
 split at h
 ·cases h;rename_i e;exact⟨116,9,e,rfl,by decide⟩
 split at h
 ·cases h;rename_i e;exact⟨98,8,e,rfl,by decide⟩
 ·cases h
theorem z89 {c b:UInt8} (h:qr0 c=some b):jc3 (b.toNat:Int)=some (.int .u8 (c.toNat:Int)):=by
 unfold qr0 at h
 repeat' split at h
 all_goals first
  | (cases h;subst c;rfl)
  | cases h
theorem zn6 (c:UInt8):(esc c).length≤6:=by
 unfold esc;cases qr0 c with
 | some b=>simp
 | none=>by_cases h:c < 32∨126 < c <;> simp[h]
theorem j77:∀l:List UInt8,(l.flatMap esc).length≤6 * l.length
 | []=>by simp
 | c ::l=>by
  have:=j77 l
  have:=zn6 c
  rw[List.flatMap_cons,List.length_append,List.length_cons]
  omega
theorem zk3 {D:List UInt8} {i:Nat} {c:UInt8} (h:D[i]? =some c):(D.take (i+1)).flatMap esc=(D.take i).flatMap esc++ esc c:=by rw[List.take_add_one,h,List.flatMap_append];simp
theorem j7 (w:World) (B b:Nat) (fp:Option Nat) (l:List UInt8) (c:UInt8) (x:Int) (hx:x=(c.toNat:Int)) (h:BW w B b fp l) (hl:l.length+1≤140737488355328) (hB:B≤w.heap.size):
  Calls Tryz.prog 161 #[.pointer (some ⟨b,0,none⟩),.int .u8 x] w fun e w'=>e=.returned .nilIface∧∃fp',BW w' B b fp' (l++ [c])∧(fp'=fp∨∃k,fp'=some k∧w.heap.size≤k)∧Mod (b ::fp.toList) w w':=by
 subst hx;exact j69 w B b fp l c h hl hB
structure QS (w wr:World) (b g:Nat) (D:List UInt8) (fp:Option Nat) (l:List UInt8):Prop where
 mod:Mod [] w wr
 bw:BW wr w.heap.size b fp l
 row:∀j (h:j < D.length),wr.cell? ⟨g,j,none⟩=some (.int .u8 (D[j].toNat:Int))
 lt:g < wr.heap.size
 bg:b≠g
 fg:fp≠some g
theorem QS.new {w wr wr':World} {b g:Nat} {D l:List UInt8} {fp:Option Nat} (h:QS w wr b g D fp l) (m:Mod [] wr wr'):QS w wr' b g D fp l:=
 ⟨h.mod.trans m (by simp),h.bw.mod m (by simp) (by simp),fun j hj=>(m.cell (p:=⟨g,j,none⟩) h.lt (by simp)).trans (h.row j hj),Nat.lt_of_lt_of_le h.lt m.size,h.bg,h.fg⟩
theorem QS.at_ {w wr wr':World} {b g r:Nat} {D l:List UInt8} {fp:Option Nat} (h:QS w wr b g D fp l) (m:Mod [r] wr wr') (hr:b < r∧g < r∧(∀k,fp=some k→k < r)∧w.heap.size≤r):QS w wr' b g D fp l:=
 ⟨h.mod.trans m (fun x hx=>by simp at hx;subst hx;exact .inr hr.2.2.2),h.bw.mod m (by simp;omega) (fun k hk=>by have:=hr.2.2.1 k hk;simp;omega),fun j hj=>(m.cell (p:=⟨g,j,none⟩) h.lt (by simp;omega)).trans (h.row j hj),Nat.lt_of_lt_of_le h.lt m.size,h.bg,h.fg⟩
theorem QS.far {w wr:World} {b g:Nat} {D l:List UInt8} {fp:Option Nat} (h:QS w wr b g D fp l):b < wr.heap.size∧g < wr.heap.size∧(∀k,fp=some k→k < wr.heap.size)∧w.heap.size≤wr.heap.size:=
 ⟨h.bw.lt,h.lt,fun k hk=>(h.bw.fp_lt k hk).2,h.mod.size⟩
theorem QS.wrote {w wr wr':World} {b g:Nat} {D l l':List UInt8} {fp fp':Option Nat} (h:QS w wr b g D fp l) (hb:BW wr' w.heap.size b fp' l') (hf:fp'=fp∨∃k,fp'=some k∧wr.heap.size≤k) (m:Mod (b ::fp.toList) wr wr'):QS w wr' b g D fp' l':=by
 have hmem:∀x,x∈b ::fp.toList→w.heap.size≤x∧x≠g:=fun x hx=>by
  rcases List.mem_cons.1 hx with rfl | hx
  ·exact⟨h.bw.base,h.bg⟩
  ·rw[Option.mem_toList]at hx;exact⟨(h.bw.fp_lt x hx).1,fun e=>h.fg (by rw[←e];exact hx)⟩
 refine⟨h.mod.trans m (fun x hx=> .inr (hmem x hx).1),hb,fun j hj=>(m.cell (p:=⟨g,j,none⟩) h.lt (fun hx=>(hmem _ hx).2 rfl)).trans (h.row j hj),Nat.lt_of_lt_of_le h.lt m.size,h.bg,?_⟩;rcases hf with rfl | ⟨k,rfl,hk⟩
 ·exact h.fg
 ·intro e;cases e;have:=h.lt;omega
theorem zt9:∀k:Fin 16,((⟨#[48,49,50,51,52,53,54,55,56,57,97,98,99,100,101,102]⟩:ByteArray)[k.val]'(by have:=k.isLt;exact this))=q93 k.val:=by decide
theorem jz4 (x:Int) (k:Nat) (hx:x=k) (hk:k < 16) (h:x.toNat < (⟨#[48,49,50,51,52,53,54,55,56,57,97,98,99,100,101,102]⟩:ByteArray).size):(⟨#[48,49,50,51,52,53,54,55,56,57,97,98,99,100,101,102]⟩:ByteArray)[x.toNat]=q93 k:=by subst hx;simp only[Int.toNat_natCast];exact zt9 ⟨k,hk⟩
theorem zm5:∀k:Fin 256,bits .and .u8 (k.val:Int) 15=((k.val % 16:Nat):Int):=by decide+kernel
theorem zc (c:UInt8):bits .and .u8 (c.toNat:Int) 15=((c.toNat % 16:Nat):Int):=zm5 ⟨c.toNat,c.toNat_lt⟩
theorem zr5 (W:World) (g:Nat) (a b:UInt8) (h0:W.cell? ⟨g,0,none⟩=some (.int .u8 (a.toNat:Int))) (h1:W.cell? ⟨g,1,none⟩=some (.int .u8 (b.toNat:Int))):
  (convert 100 9 (.slice (some ⟨g,0,none⟩) 2 2)).run Tryz.prog W=.ok (.string ⟨#[a,b]⟩) W:=
 run_convert_bytes_back (P:=Tryz.prog) W 100 9 5 ⟨g,0,none⟩ 2 [a,b] Tryz.underlying100 Tryz.underlying5 Tryz.underlying9 (fun j hj=>by
  match j,hj with
  | 0,_=>simpa [Addr.add] using h0
  | 1,_=>simpa [Addr.add] using h1)
theorem j63 (a b:Array UInt8):((⟨a⟩:ByteArray)++ ⟨b⟩)=⟨a++ b⟩:=by apply ByteArray.ext;simp
theorem zv1 {w wr:World} {b g i:Nat} {D:List UInt8} {fp:Option Nat} {bs:Array UInt8} (h:QS w wr b g D fp (34 ::(D.take i).flatMap esc)) (hn:(D.take (i+1)).flatMap esc=(D.take i).flatMap esc++ bs.toList) (hl:(34 ::(D.take i).flatMap esc).length+bs.size≤140737488355328):
  Calls Tryz.prog 80 #[.pointer (some ⟨b,0,none⟩),.string ⟨bs⟩] wr fun e w'=>∃fp' v,e=.returned v∧QS w w' b g D fp' (34 ::(D.take (i+1)).flatMap esc):=by
 refine(jh9 _ w.heap.size b fp _ ⟨bs⟩ h.bw hl h.mod.size).mono ?_;rintro e w8 ⟨rfl,fp',hb8,hf8,m8⟩;refine⟨fp',_,rfl,h.wrote (by rw[hn];exact hb8) hf8 m8⟩
theorem x05 {w wr:World} {b g i:Nat} {D:List UInt8} {fp:Option Nat} {c:UInt8} (h:QS w wr b g D fp (34 ::(D.take i).flatMap esc)) (hn:(D.take (i+1)).flatMap esc=(D.take i).flatMap esc++ [c]) (hl:(34 ::(D.take i).flatMap esc).length+1≤140737488355328):
  Calls Tryz.prog 161 #[.pointer (some ⟨b,0,none⟩),.int .u8 (c.toNat:Int)] wr fun e w'=>∃fp' v,e=.returned v∧QS w w' b g D fp' (34 ::(D.take (i+1)).flatMap esc):=by
 refine(j69 _ w.heap.size b fp _ c h.bw hl h.mod.size).mono ?_;rintro e w8 ⟨rfl,fp',hb8,hf8,m8⟩;refine⟨fp',_,rfl,h.wrote (by rw[hn];exact hb8) hf8 m8⟩
theorem qx0 (w:World) (s:ByteArray) (hs:s.size≤1099511627776):
  Calls Tryz.prog 160 #[.string s] w fun e w'=>e=.returned (str (quo s.data.toList))∧Mod [] w w':=by
 obtain⟨D,hD⟩:∃D,s.data.toList=D:=⟨_,rfl⟩;have hDl:D.length=s.size:=(by rw[←hD];exact Array.length_toList);rw[hD];have HDl:=q00 hDl;have HB0:=q00 (BW.new w w.heap.size (Nat.le_refl _));have HM0:=q00 ((Mod.refl [] w).alloc (.cells #[.pointer none,.slice none 0 0] 102));have HCv:=q00 (fun W=>Lib.run_convert_string_bytes (P:=Tryz.prog) W 9 100 5 s Tryz.underlying9 Tryz.underlying100 Tryz.underlying5);have HBy:=q00 (fun (W:World) (j:Nat) (h:j < D.length)=>show(Lib.bytesWorld W 5 s).cell? ⟨W.heap.size,j,none⟩=some (.int .u8 (D[j].toNat:Int))by rw[Lib.bytesWorld_cell W _ _ _ (by omega)];simp[hD,h]);have HMb:=q00 (fun (W:World)=>show Mod [] W (Lib.bytesWorld W 5 s)from⟨rfl,rfl,rfl,by rw[Lib.bytesWorld_size];omega,fun j hj _=>Lib.bytesWorld_at_old W _ _ j hj⟩);have HSb:=q00 (fun (W:World)=>Lib.bytesWorld_size W 5 s);obtain⟨n,hn⟩:∃n,s.size=n:=⟨_,rfl⟩;rw[hn]at hs HDl HCv;clear hD hDl hn;go_enter Tryz.func160,Tryz.ntmps160;go_wp2_with fail;go_step3;go_wp2_with fail;refine(j7 _ w.heap.size w.heap.size none [] 34 34 rfl HB0.out (by simp) (by simp)).mono ?_;rintro e w1 ⟨rfl,fp,hb1,hf1,m1⟩;have m01:=HM0.out.trans m1 (fun x hx=>by simp at hx;subst hx;exact .inr (Nat.le_refl _));have hcv:=HCv.out w1;obtain⟨w2,hw2⟩:∃w2,Lib.bytesWorld w1 5 s=w2:=⟨_,rfl⟩;obtain⟨cap,hcap⟩:∃cap,grownCap w1 n 0 5=cap:=⟨_,rfl⟩;have hrow:=HBy.out w1;have hmb:=HMb.out w1;have hsb:=HSb.out w1;rw[hw2]at hcv hrow hmb hsb;have HQ:Hid (QS w w2 w.heap.size w1.heap.size D fp [34]):=q00 ⟨m01.trans hmb (by simp),hb1.mod hmb (by simp) (by simp),hrow,by rw[hsb];omega,by have:=hb1.lt;omega,fun e=>by have:=(hb1.fp_lt _ e).2;omega⟩;obtain⟨g,hg⟩:∃g,w1.heap.size=g:=⟨_,rfl⟩;rw[hg]at hcv HQ;clear hb1 hf1 m1 m01 hrow hmb hsb HCv HBy HMb HSb HB0 HM0 hw2 hg;go_wp2_with fail;go_step3;go_wp2_with fail;have HQ0:=HQ;clear hcv HQ;go_loopw [12] (fun iv wr=>∃(i:Nat) (fp:Option Nat),i≤n∧iv=.int .i64 (i:Int)∧Hid (QS w wr w.heap.size g D fp (34 ::(D.take i).flatMap esc))) (fun iv _=>n - (intOf iv).toNat)
 case atStart=>exact⟨0,fp,by omega,rfl,HQ0⟩
 case round=>
  clear HQ0;obtain⟨i,fp,hi,rfl,HQ⟩:=hrel;by_cases h2:i < n
  ·have hiD:i < D.length:=(by rw[HDl.out];exact h2);obtain⟨c,hc⟩:∃c,D[i]=c:=⟨_,rfl⟩;have hc? :D[i]? =some c:=(by rw[List.getElem?_eq_getElem hiD,hc]);have hcell:wr.cell? ⟨g,i,none⟩=some (.int .u8 (c.toNat:Int)):=(by rw[←hc];exact HQ.out.row i hiD);have HT:=q00 (zk3 hc?);have HLen:Hid ((34 ::(D.take i).flatMap esc).length+6≤140737488355328):=q00 (by have:=j77 (D.take i);have h3:(D.take i).length≤i:=(by rw[List.length_take];omega);simp only[List.length_cons];omega);have hii:(i:Int) < n:=(by omega);have a1:IntKind.i64.wrap ((i:Int)+1)=(i:Int)+1:=IntWalk.i64_in _ (by omega);clear hc hc? hiD;go_wp2_with fail;refine(jg3 wr).mono ?_;rintro e w4 ⟨gm,rfl,hgm,hmap,m4⟩;have HQ4:=q00 (HQ.out.new m4);obtain⟨w5,cnt,hrun,hit,m5,hsz⟩:=hmap.range (P:=Tryz.prog) (T:=197) Tryz.underlying197;have HFar:=q00 HQ4.out.far;have HQ5:=q00 (HQ4.out.new m5);have hml:=hmap.lt;obtain⟨r,hr⟩:∃r,w4.heap.size=r:=⟨_,rfl⟩;rw[hr]at hrun hit hsz HFar hml;clear hr m4 m5 hmap HQ HQ4;go_wp2_with fail;go_loopw [] (fun wq=>∃(left:Int→Bool) (cnt:Nat),IIter wq gm r .u8 jc3 left cnt∧Hid (∀x,left x=false→jc3 x≠some (.int .u8 (c.toNat:Int)))∧Hid (QS w wq w.heap.size g D fp (34 ::(D.take i).flatMap esc)))
    (fun wq=>wq.rangeLeft gm r)
   case atStart=>exact⟨_,_,hit,q00 (fun x hx h=>by rw[h]at hx;cases hx),HQ5⟩
   case round=>
    clear hit HQ5 hrun hsz;obtain⟨left,cnt,hit,HL,HQ⟩:=hrel;have Hle:=q00 hit.left_eq;rcases hit.next (P:=Tryz.prog) 0 with⟨hz,hl0,hnx⟩ | ⟨x,v,w6,cnt2,hlx,hfx,hnx,hit6,hlt,hm6,hs6,hen⟩
    ·have hsg:qr0 c=none:=by
      cases hs:qr0 c with
      | none=>rfl
      | some b=>exact absurd (z89 hs) (HL.out _ (hl0 _))
     have HSg:=q00 hsg;clear hz hl0 hit HL Hle hsg;have hc256:=c.toNat_lt;by_cases hbad:c.toNat < 32∨126 < c.toNat
     ·have HE:Hid (esc c= [92,117,48,48,q93 (c.toNat / 16),q93 (c.toNat % 16)]):=q00 (by unfold esc;rw[HSg.out];rw[if_pos (by rcases hbad with h | h;exact .inl h;exact .inr h)]);by_cases hlo:c.toNat < 32
      ·have hlo2:(c.toNat:Int) < 32:=(by omega);clear hbad;go_wp2_with fail;refine wp_region_held_drew (S:=fun _=>True) (by kernel_rfl) trivial (fun _=> ?_);refine q04 (i:=0) (v:= ?_) 37 rfl rfl (by kernel_rfl) (by kernel_rfl) (by kernel_rfl) (fun _ _ _ h=>h) (Or.inl ⟨by rfl,?_⟩) trivial ?_;rotate_left
       ·intro wq hSw;go_simp;first | done | (with_reducible rfl)
       simp only[pu];refine q04 (i:=1) (v:= ?_) 38 rfl rfl (by kernel_rfl) (by kernel_rfl) (by kernel_rfl) (fun _ _ _ h=>h) (Or.inl ⟨by rfl,?_⟩) trivial ?_;rotate_left
       ·intro wq hSw;go_simp;first | done | (with_reducible rfl)
       simp only[pu];refine q04 (i:=2) (v:=.int .u8 ((q93 (c.toNat / 16)).toNat:Int)) 39 rfl rfl (by kernel_rfl) (by kernel_rfl) (by kernel_rfl) (fun _ _ _ h=>h) (Or.inl ⟨by rfl,?_⟩) trivial ?_
       ·intro wq hSw;go_simp;rw[dif_pos ⟨by omega,by omega⟩,jz4 _ (c.toNat / 16) (by omega) (by omega)];rfl
       simp only[pu];refine q04 (i:=3) (v:= ?_) 40 rfl rfl (by kernel_rfl) (by kernel_rfl) (by kernel_rfl) (fun _ _ _ h=>h) (Or.inl ⟨by rfl,?_⟩) trivial ?_;rotate_left
       ·intro wq hSw;go_simp;first | done | (with_reducible rfl)
       simp only[pu];refine q04 (i:=4) (v:= ?_) 41 rfl rfl (by kernel_rfl) (by kernel_rfl) (by kernel_rfl) (fun _ _ _ h=>h) (Or.inl ⟨by rfl,?_⟩) trivial ?_;rotate_left
       ·intro wq hSw;go_simp;first | done | (with_reducible rfl)
       simp only[pu];refine q04 (i:=5) (v:=.int .u8 ((q93 (c.toNat % 16)).toNat:Int)) 42 rfl rfl (by kernel_rfl) (by kernel_rfl) (by kernel_rfl) (fun _ _ _ h=>h) (Or.inl ⟨by rfl,?_⟩) trivial ?_
       ·intro wq hSw;go_simp;rw[zc,dif_pos ⟨by omega,by omega⟩,jz4 _ (c.toNat % 16) (by omega) (by omega)];rfl
       simp only[pu];refine wpAnyH_ready (rs:= [6]) (by kernel_rfl) (by simp) ?_;refine AllReadyH.cons rfl (fun K hK=> ?_) AllReadyH.nil;go_simp;refine hK.out _ _ trivial (fun _=> ?_);clear hK K;(try simp only[pu]);refine wpAnyH_ready (rs:= [7]) (by kernel_rfl) (by simp) ?_;refine AllReadyH.cons rfl (fun K hK=> ?_) AllReadyH.nil;go_simp;rw[zr5 _ _ (q93 (c.toNat / 16)) (q93 (c.toNat % 16)) (by go_simp) (by go_simp)];go_simp;refine hK.out _ _ trivial (fun _=> ?_);clear hK K;(try simp only[pu]);refine wpAnyH_ready (rs:= [8]) (by kernel_rfl) (by simp) ?_;refine AllReadyH.cons rfl (fun K hK=> ?_) AllReadyH.nil;go_simp;rw[j63];refine hK.out _ _ trivial (fun _=> ?_);clear hK K;(try simp only[pu]);refine wpAnyH_ready (rs:= [9]) (by kernel_rfl) (by simp) ?_;refine AllReadyH.cons rfl (fun K hK=> ?_) AllReadyH.nil;go_simp;have HC:=q00 (zv1 (HQ.out.new (((Mod.refl [] wr).alloc (.cells #[.int .u8 ((q93 (c.toNat / 16)).toNat:Int),.int .u8 ((q93 (c.toNat % 16)).toNat:Int)] 5)).drew)) (bs:= #[92,117,48,48]++ #[q93 (c.toNat / 16),q93 (c.toNat % 16)]) (HT.out.trans (by rw[HE.out];rfl)) (by have:=HLen.out;show _+6≤_;omega));refine HC.out.mono ?_;rintro e w8 ⟨fp',v8,rfl,hq8⟩;have HQ8:=q00 hq8;clear hq8;refine hK.out _ _ trivial (fun _=> ?_);clear hK K;(try simp only[pu]);refine wpAnyH_done (by kernel_rfl) ?_ _;go_wp2_with fail;go_roundw
       case rel=>exact⟨i+1,fp',by omega,by go_num,HQ8⟩
       case measure=>simp[intOf];omega
      ·have hlo2:decide ((c.toNat:Int) < 32)=false:=decide_eq_false (by omega);have hhi2:(126:Int) < (c.toNat:Int):=(by omega);clear hbad hlo;go_wp2_with fail;refine wp_region_held_drew (S:=fun _=>True) (by kernel_rfl) trivial (fun _=> ?_);refine q04 (i:=0) (v:= ?_) 37 rfl rfl (by kernel_rfl) (by kernel_rfl) (by kernel_rfl) (fun _ _ _ h=>h) (Or.inl ⟨by rfl,?_⟩) trivial ?_;rotate_left
       ·intro wq hSw;go_simp;first | done | (with_reducible rfl)
       simp only[pu];refine q04 (i:=1) (v:= ?_) 38 rfl rfl (by kernel_rfl) (by kernel_rfl) (by kernel_rfl) (fun _ _ _ h=>h) (Or.inl ⟨by rfl,?_⟩) trivial ?_;rotate_left
       ·intro wq hSw;go_simp;first | done | (with_reducible rfl)
       simp only[pu];refine q04 (i:=2) (v:=.int .u8 ((q93 (c.toNat / 16)).toNat:Int)) 39 rfl rfl (by kernel_rfl) (by kernel_rfl) (by kernel_rfl) (fun _ _ _ h=>h) (Or.inl ⟨by rfl,?_⟩) trivial ?_
       ·intro wq hSw;go_simp;rw[dif_pos ⟨by omega,by omega⟩,jz4 _ (c.toNat / 16) (by omega) (by omega)];rfl
       simp only[pu];refine q04 (i:=3) (v:= ?_) 40 rfl rfl (by kernel_rfl) (by kernel_rfl) (by kernel_rfl) (fun _ _ _ h=>h) (Or.inl ⟨by rfl,?_⟩) trivial ?_;rotate_left
       ·intro wq hSw;go_simp;first | done | (with_reducible rfl)
       simp only[pu];refine q04 (i:=4) (v:= ?_) 41 rfl rfl (by kernel_rfl) (by kernel_rfl) (by kernel_rfl) (fun _ _ _ h=>h) (Or.inl ⟨by rfl,?_⟩) trivial ?_;rotate_left
       ·intro wq hSw;go_simp;first | done | (with_reducible rfl)
       simp only[pu];refine q04 (i:=5) (v:=.int .u8 ((q93 (c.toNat % 16)).toNat:Int)) 42 rfl rfl (by kernel_rfl) (by kernel_rfl) (by kernel_rfl) (fun _ _ _ h=>h) (Or.inl ⟨by rfl,?_⟩) trivial ?_
       ·intro wq hSw;go_simp;rw[zc,dif_pos ⟨by omega,by omega⟩,jz4 _ (c.toNat % 16) (by omega) (by omega)];rfl
       simp only[pu];refine wpAnyH_ready (rs:= [6]) (by kernel_rfl) (by simp) ?_;refine AllReadyH.cons rfl (fun K hK=> ?_) AllReadyH.nil;go_simp;refine hK.out _ _ trivial (fun _=> ?_);clear hK K;(try simp only[pu]);refine wpAnyH_ready (rs:= [7]) (by kernel_rfl) (by simp) ?_;refine AllReadyH.cons rfl (fun K hK=> ?_) AllReadyH.nil;go_simp;rw[zr5 _ _ (q93 (c.toNat / 16)) (q93 (c.toNat % 16)) (by go_simp) (by go_simp)];go_simp;refine hK.out _ _ trivial (fun _=> ?_);clear hK K;(try simp only[pu]);refine wpAnyH_ready (rs:= [8]) (by kernel_rfl) (by simp) ?_;refine AllReadyH.cons rfl (fun K hK=> ?_) AllReadyH.nil;go_simp;rw[j63];refine hK.out _ _ trivial (fun _=> ?_);clear hK K;(try simp only[pu]);refine wpAnyH_ready (rs:= [9]) (by kernel_rfl) (by simp) ?_;refine AllReadyH.cons rfl (fun K hK=> ?_) AllReadyH.nil;go_simp;have HC:=q00 (zv1 (HQ.out.new (((Mod.refl [] wr).alloc (.cells #[.int .u8 ((q93 (c.toNat / 16)).toNat:Int),.int .u8 ((q93 (c.toNat % 16)).toNat:Int)] 5)).drew)) (bs:= #[92,117,48,48]++ #[q93 (c.toNat / 16),q93 (c.toNat % 16)]) (HT.out.trans (by rw[HE.out];rfl)) (by have:=HLen.out;show _+6≤_;omega));refine HC.out.mono ?_;rintro e w8 ⟨fp',v8,rfl,hq8⟩;have HQ8:=q00 hq8;clear hq8;refine hK.out _ _ trivial (fun _=> ?_);clear hK K;(try simp only[pu]);refine wpAnyH_done (by kernel_rfl) ?_ _;go_wp2_with fail;go_roundw
       case rel=>exact⟨i+1,fp',by omega,by go_num,HQ8⟩
       case measure=>simp[intOf];omega
     ·have HE:Hid (esc c= [c]):=q00 (by unfold esc;rw[HSg.out];rw[if_neg (by rintro (h | h);exact hbad (.inl h);exact hbad (.inr h))]);have hlo2:decide ((c.toNat:Int) < 32)=false:=decide_eq_false (by omega);have hhi2:decide ((126:Int) < (c.toNat:Int))=false:=decide_eq_false (by omega);clear hbad;go_wp2_with fail;have HC:=q00 (x05 HQ.out (c:=c) (HT.out.trans (by rw[HE.out])) (by have:=HLen.out;show _+1≤_;omega));refine HC.out.mono ?_;rintro e w8 ⟨fp',v8,rfl,hq8⟩;have HQ8:=q00 hq8;clear hq8;go_wp2_with fail;go_roundw
      case rel=>exact⟨i+1,fp',by omega,by go_num,HQ8⟩
      case measure=>simp[intOf];omega
    ·obtain⟨b,y,rfl,rfl,hsb⟩:=z90 hfx;have HQ6:=q00 (HQ.out.at_ hm6 HFar.out);by_cases hcy:c=y
     ·subst hcy;have g1:((c.toNat:Int)==(c.toNat:Int))=true:=(by simp);have HE:Hid (esc c= [92,b]):=q00 (by unfold esc;rw[hsb]);have hcv:(convert 100 9 (.slice (some ⟨w6.heap.size,0,none⟩) 1 1)).run Tryz.prog (w6.alloc (.cells #[.int .u8 (b.toNat:Int)] 5))=.ok (.string ⟨#[b]⟩) (w6.alloc (.cells #[.int .u8 (b.toNat:Int)] 5)):=
       run_convert_bytes_back (P:=Tryz.prog) _ 100 9 5 ⟨w6.heap.size,0,none⟩ 1 [b] Tryz.underlying100 Tryz.underlying5 Tryz.underlying9 (fun j hj=>by
        have:j=0:=by simpa using hj
        subst this
        simp[Addr.add])
      have HQ7:=q00 (HQ6.out.new ((Mod.refl [] w6).alloc (.cells #[.int .u8 (b.toNat:Int)] 5)));clear hsb hfx hlx hit hit6 HL Hle hm6 hs6 hlt HQ HQ6;go_wp2_with fail;have HC:=q00 (zv1 HQ7.out (bs:= #[92,b]) (HT.out.trans (by rw[HE.out])) (by have:=HLen.out;show _+2≤_;omega));rw[j63];refine HC.out.mono ?_;rintro e w8 ⟨fp',v8,rfl,hq8⟩;have HQ8:=q00 hq8;clear hq8;go_wp2_with fail;go_roundw
      case rel=>exact⟨i+1,fp',by omega,by go_num,HQ8⟩
      case measure=>simp[intOf];omega
     ·have g1:((c.toNat:Int)==(y.toNat:Int))=false:=by rw[beq_eq_false_iff_ne];intro e;exact hcy (UInt8.toNat_inj.1 (by omega))
      have HL6:Hid (∀x,(left x && !(x==(b.toNat:Int)))=false→jc3 x≠some (.int .u8 (c.toNat:Int))):=q00 (fun x hx=>by
       by_cases e:x=(b.toNat:Int)
       ·subst e
        rw[hfx]
        intro e
        injection e with e
        injection e with e1 e2
        exact hcy (UInt8.toNat_inj.1 (by omega))
       ·exact HL.out x (by simpa [e] using hx))
      have HIt6:=q00 hit6;clear hsb hfx hlx hit HL hm6 hs6 HQ hcy hit6;go_wp2_with fail;go_roundw
      case rel=>exact⟨_,cnt2,HIt6.out,HL6,HQ6⟩
      case measure=>rw[HIt6.out.left_eq,Hle.out];exact hlt
  ·have hin:i=n:=(by omega);subst hin;have hQ:=HQ.out;rw[List.take_of_length_le (by rw[HDl.out];exact Nat.le_refl _)]at hQ;have HLen:Hid ((34 ::D.flatMap esc).length+1≤140737488355328):=q00 (by have:=j77 D;rw[HDl.out]at this;simp only[List.length_cons];omega);have HC:=q00 (j7 _ w.heap.size w.heap.size fp _ 34 34 rfl hQ.bw HLen.out hQ.mod.size);have HQ2:=q00 hQ;clear hQ HQ;go_wp2_with fail;refine HC.out.mono ?_;rintro e w3 ⟨rfl,fp3,hb3,hf3,m3⟩;have HM3:=q00 (HQ2.out.wrote hb3 hf3 m3).mod;have HC3:=q00 (qb1 w3 w.heap.size w.heap.size _ hb3.bld HM3.out.size);clear hb3 hf3 m3;go_wp2_with fail;refine HC3.out.mono ?_;rintro e w4 ⟨rfl,h4⟩;have HM4:=q00 (h4.mod HM3.out (Nat.le_refl _));clear h4;go_wp2_with fail;rw[Exit.noGoto_ret];go_ret;exact⟨rfl,HM4.out⟩
def zw7:Go.Shelf.Ren:=⟨fun | 129=>215 | 173=>159 | 246=>187 | 283=>200 | 284=>201 | 285=>202 | 286=>203 | 317=>214 | 318=>216 | 319=>217 | 320=>218 | 337=>226 | 338=>227 | n=>n,fun | 0=>0 | 2=>2 | 3=>3 | 4=>4 | 5=>5 | 9=>9 | 17=>17 | 18=>18 | 19=>19 | 20=>20 | 37=>100 | 46=>153 | 51=>189 | 53=>33 | 171=>210 | 173=>212 | 212=>225 | 213=>226 | 232=>242 | 233=>243 | n=>n,fun | 17=>1 | 18=>6 | 19=>7 | n=>n⟩
theorem zt8:Go.Proofs.LaysM.n173 Tryz.prog zw7:= {
 mixed:=by kernel_rfl,
 f129:=Tryz.func215.trans (congrArg some (by kernel_rfl)),
 f173:=Tryz.func159.trans (congrArg some (by kernel_rfl)),
 f246:=Tryz.func187.trans (congrArg some (by kernel_rfl)),
 f283:=Tryz.func200.trans (congrArg some (by kernel_rfl)),
 f284:=Tryz.func201.trans (congrArg some (by kernel_rfl)),
 f285:=Tryz.func202.trans (congrArg some (by kernel_rfl)),
 f286:=Tryz.func203.trans (congrArg some (by kernel_rfl)),
 f317:=Tryz.func214.trans (congrArg some (by kernel_rfl)),
 f318:=Tryz.func216.trans (congrArg some (by kernel_rfl)),
 f319:=Tryz.func217.trans (congrArg some (by kernel_rfl)),
 f320:=Tryz.func218.trans (congrArg some (by kernel_rfl)),
 f337:=Tryz.func226.trans (congrArg some (by kernel_rfl)),
 f338:=Tryz.func227.trans (congrArg some (by kernel_rfl)),
 t0:=Tryz.underlying0,
 a0:=Tryz.isAgg0,
 z0:=Tryz.sizeOf0,
 v0:=Tryz.zeroValue0,
 t2:=Tryz.underlying2,
 a2:=Tryz.isAgg2,
 z2:=Tryz.sizeOf2,
 v2:=Tryz.zeroValue2,
 t3:=Tryz.underlying3,
 a3:=Tryz.isAgg3,
 z3:=Tryz.sizeOf3,
 v3:=Tryz.zeroValue3,
 t4:=Tryz.underlying4,
 a4:=Tryz.isAgg4,
 z4:=Tryz.sizeOf4,
 v4:=Tryz.zeroValue4,
 t5:=Tryz.underlying5,
 a5:=Tryz.isAgg5,
 z5:=Tryz.sizeOf5,
 v5:=Tryz.zeroValue5,
 t9:=Tryz.underlying9,
 a9:=Tryz.isAgg9,
 z9:=Tryz.sizeOf9,
 v9:=Tryz.zeroValue9,
 t20:=Tryz.underlying20,
 a20:=Tryz.isAgg20,
 z20:=Tryz.sizeOf20,
 v20:=Tryz.zeroValue20,
 t37:=Tryz.underlying100,
 a37:=Tryz.isAgg100,
 z37:=Tryz.sizeOf100,
 v37:=Tryz.zeroValue100,
 t46:=Tryz.underlying153,
 a46:=Tryz.isAgg153,
 z46:=Tryz.sizeOf153,
 v46:=Tryz.zeroValue153,
 t51:=Tryz.underlying189,
 a51:=Tryz.isAgg189,
 z51:=Tryz.sizeOf189,
 v51:=Tryz.zeroValue189,
 t53:=Tryz.underlying33,
 a53:=Tryz.isAgg33,
 z53:=Tryz.sizeOf33,
 v53:=Tryz.zeroValue33,
 t171:=Tryz.underlying210,
 a171:=Tryz.isAgg210,
 z171:=Tryz.sizeOf210,
 v171:=Tryz.zeroValue210,
 t173:=Tryz.underlying212,
 a173:=Tryz.isAgg212,
 z173:=Tryz.sizeOf212,
 v173:=Tryz.zeroValue212,
 t212:=Tryz.underlying225,
 a212:=Tryz.isAgg225,
 z212:=Tryz.sizeOf225,
 v212:=Tryz.zeroValue225,
 t213:=Tryz.underlying226,
 a213:=Tryz.isAgg226,
 z213:=Tryz.sizeOf226,
 t232:=Tryz.underlying242,
 a232:=Tryz.isAgg242,
 z232:=Tryz.sizeOf242,
 v232:=Tryz.zeroValue242,
 t233:=Tryz.underlying243,
 a233:=Tryz.isAgg243,
 z233:=Tryz.sizeOf243,
 v233:=Tryz.zeroValue243,
 g17:=by kernel_rfl,
 g18:=by kernel_rfl,
 g19:=by kernel_rfl,
 i0:=by kernel_rfl,
 i2:=by kernel_rfl,
 i3:=by kernel_rfl,
 i4:=by kernel_rfl,
 i5:=by kernel_rfl,
 i9:=by kernel_rfl,
 i20:=by kernel_rfl,
 i37:=by kernel_rfl,
 i46:=by kernel_rfl,
 i51:=by kernel_rfl,
 i53:=by kernel_rfl,
 i171:=by kernel_rfl,
 i173:=by kernel_rfl,
 i212:=by kernel_rfl,
 i232:=by kernel_rfl,
 i233:=by kernel_rfl,
 m17:=by kernel_rfl,
 m18:=by kernel_rfl,
 m19:=by kernel_rfl }
theorem Mod.of_grow (w:World) (k:Nat) (os:Array Obj):Mod [] w (Sort.grow (w.drewN k) os):=
 ⟨rfl,rfl,rfl,by show w.heap.size≤(w.heap++ os).size;rw[Array.size_append];omega,fun j hj _=>Sort.heap_grow_old (w.drewN k) os hj⟩
theorem jd5 (w:World) (n:Int) (h0: -9223372036854775808≤n) (h1:n < 9223372036854775808) (B:Nat) (hv:JVars B w):
  Calls Tryz.prog 159 #[.int .i64 n,.int .i64 10] w fun e w'=>e=.returned (str (Lib.itoa n))∧Mod [] w w':=by
 have hc:Calls Tryz.prog 159 #[.int .i64 n,.int .i64 10] w _:=Any.strconv_FormatInt_10 zt8 n h0 (by omega) w (hv w (Below.refl B w)).1;refine hc.mono ?_;rintro e w' ⟨rfl,k,os,rfl⟩;exact⟨rfl,Mod.of_grow _ _ _⟩
def qp (obj:Bool) (l:List JV) (ks:List ByteArray) (i:Nat):List UInt8:=if i=0 then q42 obj l ks else q62 obj (l.drop i) (ks.drop i)
theorem j96 {obj:Bool} {l:List JV} {ks:List ByteArray} {i:Nat} {x:JV} (h:l[i]? =some x):
  qp obj l ks i=(if i=0 then []else [44])++ (q73 obj (ks.drop i)++ (jwr x++ qp obj l ks (i+1))):=by
 have hd:l.drop i=x ::l.drop (i+1):=(by obtain⟨h1,h2⟩:=List.getElem?_eq_some_iff.1 h;rw[List.drop_eq_getElem_cons h1,h2]);unfold qp;rw[if_neg (Nat.succ_ne_zero i)];have ht:(ks.drop i).tail=ks.drop (i+1):=(by rw[List.tail_drop]);by_cases h0:i=0
 ·subst h0;rw[if_pos rfl,if_pos rfl];rw[List.drop_zero]at hd ht;rw[hd,q42,ht,List.drop_zero];simp
 ·rw[if_neg h0,if_neg h0,hd,q62,ht];simp
theorem je8 {obj:Bool} {l:List JV} {ks:List ByteArray} {i:Nat} (h:l.length≤i):qp obj l ks i= []:=by
 unfold qp;by_cases h0:i=0
 ·subst h0;rw[if_pos rfl];cases l with
  | nil=>rw[q42]
  | cons x l=>simp at h
 ·rw[if_neg h0,List.drop_eq_nil_of_le h,q62]
theorem jn8 {d:Nat} {l:List JV} {i:Nat} {x:JV} (h:q61 d l=true) (hx:l[i]? =some x):q27 d x=true:=(qh6 d l).1 h x (List.mem_of_getElem? hx)
theorem qs5:∀ {l:List JV} {i:Nat} {x:JV},qc7 l=true→l[i]? =some x→qh7 x=true
 | [],i,x,h,hx=>by simp at hx
 | y ::l,0,x,h,hx=>by
  cases hx
  rw[qc7,Bool.and_eq_true]at h
  exact h.1
 | y ::l,i+1,x,h,hx=>by
  rw[qc7,Bool.and_eq_true]at h
  exact qs5 h.2 (by simpa using hx)
theorem j00 (s:List UInt8):s.length≤(quo s).length:=by
 unfold quo;have:∀l:List UInt8,l.length≤(l.flatMap esc).length:=fun l=>by
  induction l with
  | nil=>simp
  | cons c t ih=>
   rw[List.flatMap_cons,List.length_append,List.length_cons];have:1≤(esc c).length:=by
    unfold esc;cases qr0 c with
    | some b=>simp
    | none=>by_cases h:c < 32∨126 < c <;> simp[h]
   omega
 have:=this s;simp only[List.length_cons,List.length_append];omega
theorem JN.szs_at {l:List JN} {i:Nat} {x:JN} (h:l[i]? =some x):x.sz≤JN.szs l:=JN.szs_mem (List.mem_of_getElem? h)
theorem BStep.trans {B b:Nat} {u v w:World} (h:BStep B b u v) (k:BStep B b v w):BStep B b u w:=⟨h.below.trans k.below,h.others.trans k.others⟩
theorem BStep.of_mod {B b:Nat} {w w':World} (m:Mod [] w w') (hB:B≤w.heap.size):BStep B b w w':=
 ⟨m.below hB (by simp),fun k o hk _ _=>(m.block k (Array.getElem?_eq_some_iff.1 hk).1 (by simp)).trans hk⟩
structure WS (W w0 w:World) (B b vb:Nat) (cs:Array Value) (acc:List UInt8):Prop where
 bld:BldO w B b acc
 step:BStep B b w0 w
 mod:Mod [] W w
 v:Blk w vb 43 cs
 le:B≤w.heap.size
 ne:vb≠b
 base:W.heap.size≤B
 vars:JVars B w
theorem WS.new {W w0 w w':World} {B b vb:Nat} {cs:Array Value} {acc:List UInt8} (h:WS W w0 w B b vb cs acc) (m:Mod [] w w'):WS W w0 w' B b vb cs acc:=
 ⟨h.bld.mod m (by simp),h.step.trans (BStep.of_mod m h.le),h.mod.trans m (by simp),m.blk h.v (by simp),Nat.le_trans h.le m.size,h.ne,h.base,h.vars.mod m h.le (by simp)⟩
theorem WS.wrote {W w0 w w':World} {B b vb:Nat} {cs:Array Value} {acc acc':List UInt8} (h:WS W w0 w B b vb cs acc) (hb:BldO w' B b acc') (k:BStep B b w w'):WS W w0 w' B b vb cs acc':=
 ⟨hb,h.step.trans k,k.mod h.mod h.base,k.blk h.v h.ne (by decide),Nat.le_trans h.le k.below.size,h.ne,h.base,h.vars.step k.below⟩
theorem ql9 {W w0 w:World} {B b vb:Nat} {cs:Array Value} {acc:List UInt8} (h:WS W w0 w B b vb cs acc) (s:ByteArray) (l:List UInt8) (hs:s.data.toList=l) (hl:acc.length+l.length≤140737488355328):
  Calls Tryz.prog 80 #[.pointer (some ⟨b,0,none⟩),.string s] w fun e w'=>∃v,e=.returned v∧WS W w0 w' B b vb cs (acc++ l)∧BStep B b w w':=by
 subst hs;rw[q12]at hl;refine(q54 w B b acc s h.bld hl h.le).mono ?_;rintro e w' ⟨rfl,h1,h2⟩;exact⟨_,rfl,h.wrote h1 h2,h2⟩
theorem j24 {W w0 w:World} {B b vb:Nat} {cs:Array Value} {acc:List UInt8} (h:WS W w0 w B b vb cs acc) (c:UInt8) (x:Int) (hx:x=(c.toNat:Int)) (hl:acc.length+1≤140737488355328):
  Calls Tryz.prog 161 #[.pointer (some ⟨b,0,none⟩),.int .u8 x] w fun e w'=>∃v,e=.returned v∧WS W w0 w' B b vb cs (acc++ [c])∧BStep B b w w':=by
 subst hx;refine(j07 w B b acc c h.bld hl h.le).mono ?_;rintro e w' ⟨rfl,h1,h2⟩;exact⟨_,rfl,h.wrote h1 h2,h2⟩
theorem zf9 {ks:List ByteArray} {i:Nat} {key:ByteArray} (h:ks[i]? =some key):q73 true (ks.drop i)=quo key.data.toList++ [58]:=by obtain⟨h1,h2⟩:=List.getElem?_eq_some_iff.1 h;rw[List.drop_eq_getElem_cons h1,h2];rfl
def zs3 (n:Nat):Prop:=∀(W w:World) (B b d:Nat) (acc:List UInt8) (x:JN),x.sz≤n→q27 d x.v=true→qh7 x.v=true→JIn W x→W.heap.size≤B→B≤w.heap.size→Mod [] W w→BldO w B b acc→JVars B w→
 acc.length+(jwr x.v).length≤1099511627776→
 Calls Tryz.prog 122 #[.pointer (some ⟨b,0,none⟩),.agg x.cells] w fun e w'=>e=.returned (.tuple #[])∧BldO w' B b (acc++ jwr x.v)∧BStep B b w w'
theorem jl2 (N:Nat) (hW:zs3 N):zs3 (N+1):=by
 intro W w B b d acc x hsz hmay hrng hx hWB hBw hM hbld hvars hlen;obtain⟨xk,xi,xt,xA,xc,xl,xB,xd,xs⟩:=x;have hv:(JN.mk xk xi xt xA xc xl xB xd xs).v=.mk xk xi xt (JN.vs xl) xs:=(by rw[JN.v]);rw[hv]at hmay hrng hlen ⊢;have HMay:=q00 hmay;have HRng:=q00 hrng;rw[JIn]at hx;obtain⟨⟨hx1,hx2,_⟩,hx3,hx4,hx5⟩:=hx;rw[JN.sz]at hsz;have hsz2:JN.szs xl≤N:=(by omega);simp only[JN.cells];have hblt:=hbld.lt
 have HS:=q00 (show WS W w (w.alloc (.cells #[.int .i64 xk,.int .i64 xi,.string xt,.slice xA xl.length xc,.slice xB xs.length xd] 43)) B b w.heap.size #[.int .i64 xk,.int .i64 xi,.string xt,.slice xA xl.length xc,.slice xB xs.length xd] acc from
  ⟨hbld.mod ((Mod.refl [] w).alloc _) (by simp),BStep.of_mod ((Mod.refl [] w).alloc _) hBw,hM.alloc _,Blk.new w _ _,by rw[World.size_alloc];omega,by omega,hWB,hvars.mod ((Mod.refl [] w).alloc _) hBw (by simp)⟩)
 have HKeys:=q00 hx3;have HRow:=q00 hx4;have HIns:=q00 hx5;have HWr:=q00 hW;obtain⟨n,hn⟩:∃n,xl.length=n:=⟨_,rfl⟩;obtain⟨m,hm⟩:∃m,xs.length=m:=⟨_,rfl⟩;have HN:=q00 hn;have HMm:=q00 hm;unfold q99 at hx1 hx2;rw[hn]at HS hx1;rw[hm]at HS hx2;rw[hn,hm];have hks:=(q94 hmay);have HSz:=q00 hsz2;clear hW hx3 hx4 hx5 hn hm hsz hsz2 hv hrng hM hbld hvars hmay;go_enter Tryz.func122,Tryz.ntmps122;have hkk:xk=0∨xk=1∨xk=2∨xk=3∨xk=4∨xk=5∨xk=6:=by have:=HMay.out;rw[q27]at this;simp only[Bool.and_eq_true,Bool.or_eq_true,decide_eq_true_eq]at this;obtain⟨⟨⟨⟨⟨⟨_,h⟩,_⟩,_⟩,_⟩,_⟩,_⟩:=this;omega
 clear hks;rcases hkk with hk | hk | hk | hk | hk | hk | hk
 ·subst hk;have HRes:Hid (jwr (.mk 0 xi xt (JN.vs xl) xs)= [110,117,108,108]):=q00 (by rw[jwr];rfl);rw[HRes.out]at hlen ⊢;go_wp2_with fail;refine(ql9 HS.out ⟨#[110,117,108,108]⟩ [110,117,108,108] rfl (by simp at hlen ⊢;omega)).mono ?_;rintro e w2 ⟨v,rfl,hs2,_⟩;have HS2:=q00 hs2;clear hs2;go_wp2_with fail;refine⟨rfl,_,results_none rfl _ _ _,?_⟩;exact⟨rfl,HS2.out.bld,HS2.out.step⟩
 ·subst hk;have HRes:Hid (jwr (.mk 1 xi xt (JN.vs xl) xs)= [102,97,108,115,101]):=q00 (by rw[jwr];rfl);rw[HRes.out]at hlen ⊢;go_wp2_with fail;refine(ql9 HS.out ⟨#[102,97,108,115,101]⟩ [102,97,108,115,101] rfl (by simp at hlen ⊢;omega)).mono ?_;rintro e w2 ⟨v,rfl,hs2,_⟩;have HS2:=q00 hs2;clear hs2;go_wp2_with fail;refine⟨rfl,_,results_none rfl _ _ _,?_⟩;exact⟨rfl,HS2.out.bld,HS2.out.step⟩
 ·subst hk;have HRes:Hid (jwr (.mk 2 xi xt (JN.vs xl) xs)= [116,114,117,101]):=q00 (by rw[jwr];rfl);rw[HRes.out]at hlen ⊢;go_wp2_with fail;refine(ql9 HS.out ⟨#[116,114,117,101]⟩ [116,114,117,101] rfl (by simp at hlen ⊢;omega)).mono ?_;rintro e w2 ⟨v,rfl,hs2,_⟩;have HS2:=q00 hs2;clear hs2;go_wp2_with fail;refine⟨rfl,_,results_none rfl _ _ _,?_⟩;exact⟨rfl,HS2.out.bld,HS2.out.step⟩
 ·subst hk;have HRes:Hid (jwr (.mk 3 xi xt (JN.vs xl) xs)=Lib.itoa xi):=q00 (by rw[jwr];rfl);rw[HRes.out]at hlen ⊢;have hi:j48 xi=true:=by have:=HRng.out;rw[qh7,Bool.and_eq_true]at this;exact this.1
  obtain⟨hi1,hi2⟩:=qo8 hi;have HF:=q00 (jd5 _ xi hi1 hi2 B HS.out.vars);go_wp2_with fail;refine HF.out.mono ?_;rintro e w2 ⟨rfl,m2⟩;have HS2:=q00 (HS.out.new m2);clear m2 HF;go_wp2_with fail;refine(ql9 HS2.out _ (Lib.itoa xi) (by simp) (by omega)).mono ?_;rintro e w3 ⟨v,rfl,hs3,_⟩;have HS3:=q00 hs3;clear hs3;go_wp2_with fail;refine⟨rfl,_,results_none rfl _ _ _,?_⟩;exact⟨rfl,HS3.out.bld,HS3.out.step⟩
 ·subst hk;have HRes:Hid (jwr (.mk 4 xi xt (JN.vs xl) xs)=quo xt.data.toList):=q00 (by rw[jwr];rfl);rw[HRes.out]at hlen ⊢;have HQ:=q00 (fun w=>qx0 w xt (by have:=j00 xt.data.toList;rw[q12]at this;omega));go_wp2_with fail;refine(HQ.out _).mono ?_;rintro e w2 ⟨rfl,m2⟩;have HS2:=q00 (HS.out.new m2);clear m2 HQ;go_wp2_with fail;refine(ql9 HS2.out _ (quo xt.data.toList) (by simp) (by omega)).mono ?_;rintro e w3 ⟨v,rfl,hs3,_⟩;have HS3:=q00 hs3;clear hs3;go_wp2_with fail;refine⟨rfl,_,results_none rfl _ _ _,?_⟩;exact⟨rfl,HS3.out.bld,HS3.out.step⟩
 ·subst hk;have HRes:Hid (jwr (.mk 5 xi xt (JN.vs xl) xs)=91 ::(q42 false (JN.vs xl) xs++ [93])):=q00 (by rw[jwr];rfl);rw[HRes.out]at hlen ⊢;have HLn:Hid ((acc++ (91 ::q42 false (JN.vs xl) xs)).length+1≤1099511627776):=q00 (by simp only[List.length_append,List.length_cons,List.length_nil]at hlen ⊢;omega);have HMs:Hid (q61 (d - 1) (JN.vs xl)=true):=q00 (q94 HMay.out).2.2.2.2.2.2;have HRs:Hid (qc7 (JN.vs xl)=true):=q00 (by have:=HRng.out;rw[qh7,Bool.and_eq_true]at this;exact this.2);obtain⟨vb,hvb⟩:∃vb,w.heap.size=vb:=⟨_,rfl⟩;clear HRes;go_wp2_with fail;rw[hvb]at HS;refine(j24 HS.out 91 _ rfl (by omega)).mono ?_;rintro e w2 ⟨v,rfl,hs2,_⟩;have HS2:=q00 hs2;have q0:w2.cell? ⟨vb,0,none⟩=some (.int .i64 5):=hs2.v.cell 0;have q3:w2.cell? ⟨vb,3,none⟩=some (.slice xA n xc):=hs2.v.cell 3;clear hs2 hvb;go_wp2_with fail;go_loopw [19] (fun iv wr=>∃(i:Nat) (acc':List UInt8),i≤n∧iv=.int .i64 (i:Int)∧Hid (WS W w wr B b vb #[.int .i64 5,.int .i64 xi,.string xt,.slice xA n xc,.slice xB m xd] acc')∧Hid (acc'++ qp false (JN.vs xl) xs i=acc++ (91 ::q42 false (JN.vs xl) xs))) (fun iv _=>n - (intOf iv).toNat)
  case atStart=>exact⟨0,_,by omega,rfl,HS2,q00 (by unfold qp;rw[if_pos rfl];simp)⟩
  case round=>
   clear HS2 q0 q3;obtain⟨i,acc',hi,rfl,HS2,HE⟩:=hrel;by_cases h2:i < n
   ·obtain⟨u,hu⟩:∃u,xl[i]? =some u:=⟨_,List.getElem?_eq_getElem (by rw[HN.out];exact h2)⟩;have huv:(JN.vs xl)[i]? =some u.v:=(by rw[JN.vs_at,hu];rfl);obtain⟨g,o,rfl,hg,hc⟩:=(HRow.out.new HS2.out.mod).at_ hu;have hii:(i:Int) < n:=(by omega);have a1:IntKind.i64.wrap ((i:Int)+1)=(i:Int)+1:=IntWalk.i64_in _ (by omega);have HUz:=q00 (Nat.le_trans (JN.szs_at hu) HSz.out);have HUm:=q00 (jn8 HMs.out huv);have HUr:=q00 (qs5 HRs.out huv);have HUi:=q00 (HIns.out.at_ hu);have HSt:=q00 HE.out;rw[j96 huv]at HSt;obtain⟨uk,ui,ut,uA,uc,ul,uB,ud,us⟩:=u;have y0:wr.cell? ⟨g,o+i * 5,none⟩=some (.int .i64 uk):=hc 0 _ rfl;have y1:wr.cell? ⟨g,o+i * 5+1,none⟩=some (.int .i64 ui):=hc 1 _ rfl;have y2:wr.cell? ⟨g,o+i * 5+2,none⟩=some (.string ut):=hc 2 _ rfl;have y3:wr.cell? ⟨g,o+i * 5+3,none⟩=some (.slice uA ul.length uc):=hc 3 _ rfl;have y4:wr.cell? ⟨g,o+i * 5+4,none⟩=some (.slice uB us.length ud):=hc 4 _ rfl;have HX2:=q00 (Blk.new wr 43 #[.int .i64 uk,.int .i64 ui,.string ut,.slice uA ul.length uc,.slice uB us.length ud]);have HS3:=q00 (HS2.out.new ((Mod.refl [] wr).alloc (.cells #[.int .i64 uk,.int .i64 ui,.string ut,.slice uA ul.length uc,.slice uB us.length ud] 43)));have hxb0:=HS2.out.bld.lt;have hvx:=HS2.out.v.lt;obtain⟨xb,hxb⟩:∃xb,wr.heap.size=xb:=⟨_,rfl⟩;rw[hxb]at HX2 hxb0 hvx;clear hu huv hc HE;by_cases hi0:i=0
    ·have i0:decide ((0:Int) < (i:Int))=false:=decide_eq_false (by omega);have i0n:decide (0 < i)=false:=decide_eq_false (by omega);have Hi0:=q00 hi0;clear hi0;have z0:(wr.alloc (.cells #[.int .i64 uk,.int .i64 ui,.string ut,.slice uA ul.length uc,.slice uB us.length ud] 43)).cell? ⟨vb,0,none⟩=some (.int .i64 5):=HS3.out.v.cell 0;go_upto_region 11 with fail;obtain⟨w6,hw6⟩:∃w6,wr.alloc (.cells #[.int .i64 uk,.int .i64 ui,.string ut,.slice uA ul.length uc,.slice uB us.length ud] 43)=w6:=⟨_,rfl⟩;rw[hw6]at HX2 HS3 z0 ⊢;clear hw6 z0 hxb;have z0:w6.cell? ⟨vb,0,none⟩=some (.int .i64 5):=HS3.out.v.cell 0;have z4:w6.cell? ⟨vb,4,none⟩=some (.slice xB m xd):=HS3.out.v.cell 4;have b0:w6.cell? ⟨xb,0,none⟩=some (.int .i64 uk):=HX2.out.cell 0;have b1:w6.cell? ⟨xb,1,none⟩=some (.int .i64 ui):=HX2.out.cell 1;have b2:w6.cell? ⟨xb,2,none⟩=some (.string ut):=HX2.out.cell 2;have b3:w6.cell? ⟨xb,3,none⟩=some (.slice uA ul.length uc):=HX2.out.cell 3;have b4:w6.cell? ⟨xb,4,none⟩=some (.slice uB us.length ud):=HX2.out.cell 4;have HEq:Hid ((acc'++ jwr (JN.mk uk ui ut uA uc ul uB ud us).v)++ qp false (JN.vs xl) xs (i+1)=acc++ (91 ::q42 false (JN.vs xl) xs)):=q00 (by have h2:=HSt.out;rw[if_pos Hi0.out]at h2;rw[show q73 false (xs.drop i)= []from rfl]at h2;rw[←h2];simp);have hcall:=HWr.out W w6 B b (d - 1) acc' (JN.mk uk ui ut uA uc ul uB ud us) HUz.out HUm.out HUr.out HUi.out HS3.out.base HS3.out.le HS3.out.mod HS3.out.bld HS3.out.vars (by have h1:=HLn.out;have h3:=congrArg List.length HEq.out;simp only[List.length_append,List.length_cons,List.length_nil]at h1 h3 ⊢;omega);simp only[JN.cells]at hcall;have HCall:=q00 hcall;clear hcall;go_wp2_with fail;refine HCall.out.mono ?_;rintro e w9 ⟨rfl,h9,k9⟩;have HS9:=q00 (HS3.out.wrote h9 k9);clear h9 k9;go_wp2_with fail;go_roundw
     case rel=>exact⟨i+1,_,by omega,by go_num,HS9,HEq⟩
     case measure=>simp[intOf];omega
    ·have i0:(0:Int) < (i:Int):=(by omega);have Hi0:=q00 hi0;clear hi0;have HLc:Hid (acc'.length+2≤1099511627776):=q00 (by have h1:=HLn.out;have h2:=congrArg List.length HSt.out;rw[if_neg Hi0.out]at h2;simp only[List.length_append,List.length_cons,List.length_nil]at h1 h2 ⊢;omega);go_wp2_with fail;refine(j24 HS3.out 44 44 rfl (by have:=HLc.out;omega)).mono ?_;rintro e w6 ⟨v6,rfl,hs6,k6⟩;have HS6:=q00 hs6;have HX6:=q00 (k6.blk HX2.out (by omega) (by decide));clear hs6 k6 hxb;go_upto_region 11 with fail;have z0:w6.cell? ⟨vb,0,none⟩=some (.int .i64 5):=HS6.out.v.cell 0;have z4:w6.cell? ⟨vb,4,none⟩=some (.slice xB m xd):=HS6.out.v.cell 4;have b0:w6.cell? ⟨xb,0,none⟩=some (.int .i64 uk):=HX6.out.cell 0;have b1:w6.cell? ⟨xb,1,none⟩=some (.int .i64 ui):=HX6.out.cell 1;have b2:w6.cell? ⟨xb,2,none⟩=some (.string ut):=HX6.out.cell 2;have b3:w6.cell? ⟨xb,3,none⟩=some (.slice uA ul.length uc):=HX6.out.cell 3;have b4:w6.cell? ⟨xb,4,none⟩=some (.slice uB us.length ud):=HX6.out.cell 4;have HEq:Hid (((acc'++ [44])++ jwr (JN.mk uk ui ut uA uc ul uB ud us).v)++ qp false (JN.vs xl) xs (i+1)=acc++ (91 ::q42 false (JN.vs xl) xs)):=q00 (by have h2:=HSt.out;rw[if_neg Hi0.out]at h2;rw[show q73 false (xs.drop i)= []from rfl]at h2;rw[←h2];simp);have hcall:=HWr.out W w6 B b (d - 1) (acc'++ [44]) (JN.mk uk ui ut uA uc ul uB ud us) HUz.out HUm.out HUr.out HUi.out HS6.out.base HS6.out.le HS6.out.mod HS6.out.bld HS6.out.vars (by have h1:=HLn.out;have h3:=congrArg List.length HEq.out;simp only[List.length_append,List.length_cons,List.length_nil]at h1 h3 ⊢;omega);simp only[JN.cells]at hcall;have HCall:=q00 hcall;clear hcall;go_wp2_with fail;refine HCall.out.mono ?_;rintro e w9 ⟨rfl,h9,k9⟩;have HS9:=q00 (HS6.out.wrote h9 k9);clear h9 k9;go_wp2_with fail;go_roundw
     case rel=>exact⟨i+1,_,by omega,by go_num,HS9,HEq⟩
     case measure=>simp[intOf];omega
   ·have hin:i=n:=(by omega);subst hin;have HE2:=q00 HE.out;rw[je8 (by rw[JN.vs_len,HN.out];exact Nat.le_refl _),List.append_nil]at HE2;have HSe:=q00 HS2.out;rw[HE2.out]at HSe;go_wp2_with fail;refine(j24 HSe.out 93 _ rfl (by have:=HLn.out;omega)).mono ?_;rintro e w3 ⟨v,rfl,hs3,_⟩;have HS4:=q00 hs3;clear hs3;go_wp2_with fail;refine⟨rfl,_,results_none rfl _ _ _,?_⟩;refine⟨rfl,?_,HS4.out.step⟩;have:=HS4.out.bld;simpa using this
 ·subst hk;have HRes:Hid (jwr (.mk 6 xi xt (JN.vs xl) xs)=123 ::(q42 true (JN.vs xl) xs++ [125])):=q00 (by rw[jwr];rfl);rw[HRes.out]at hlen ⊢;have HLn:Hid ((acc++ (123 ::q42 true (JN.vs xl) xs)).length+1≤1099511627776):=q00 (by simp only[List.length_append,List.length_cons,List.length_nil]at hlen ⊢;omega);have HMs:Hid (q61 (d - 1) (JN.vs xl)=true):=q00 (q94 HMay.out).2.2.2.2.2.2;have HRs:Hid (qc7 (JN.vs xl)=true):=q00 (by have:=HRng.out;rw[qh7,Bool.and_eq_true]at this;exact this.2);have HMn:Hid (m=n):=q00 (by have:=jn7 HMay.out rfl;rw[JN.vs_len]at this;have h1:=HN.out;have h2:=HMm.out;omega);obtain⟨vb,hvb⟩:∃vb,w.heap.size=vb:=⟨_,rfl⟩;clear HRes;go_wp2_with fail;rw[hvb]at HS;refine(j24 HS.out 123 _ rfl (by omega)).mono ?_;rintro e w2 ⟨v,rfl,hs2,_⟩;have HS2:=q00 hs2;have q0:w2.cell? ⟨vb,0,none⟩=some (.int .i64 6):=hs2.v.cell 0;have q3:w2.cell? ⟨vb,3,none⟩=some (.slice xA n xc):=hs2.v.cell 3;clear hs2 hvb;go_wp2_with fail;go_loopw [19] (fun iv wr=>∃(i:Nat) (acc':List UInt8),i≤n∧iv=.int .i64 (i:Int)∧Hid (WS W w wr B b vb #[.int .i64 6,.int .i64 xi,.string xt,.slice xA n xc,.slice xB m xd] acc')∧Hid (acc'++ qp true (JN.vs xl) xs i=acc++ (123 ::q42 true (JN.vs xl) xs))) (fun iv _=>n - (intOf iv).toNat)
  case atStart=>exact⟨0,_,by omega,rfl,HS2,q00 (by unfold qp;rw[if_pos rfl];simp)⟩
  case round=>
   clear HS2 q0 q3;obtain⟨i,acc',hi,rfl,HS2,HE⟩:=hrel;by_cases h2:i < n
   ·obtain⟨u,hu⟩:∃u,xl[i]? =some u:=⟨_,List.getElem?_eq_getElem (by rw[HN.out];exact h2)⟩;have huv:(JN.vs xl)[i]? =some u.v:=(by rw[JN.vs_at,hu];rfl);obtain⟨g,o,rfl,hg,hc⟩:=(HRow.out.new HS2.out.mod).at_ hu;have hii:(i:Int) < n:=(by omega);have a1:IntKind.i64.wrap ((i:Int)+1)=(i:Int)+1:=IntWalk.i64_in _ (by omega);have HUz:=q00 (Nat.le_trans (JN.szs_at hu) HSz.out);have HUm:=q00 (jn8 HMs.out huv);have HUr:=q00 (qs5 HRs.out huv);have HUi:=q00 (HIns.out.at_ hu);have HSt:=q00 HE.out;rw[j96 huv]at HSt;obtain⟨uk,ui,ut,uA,uc,ul,uB,ud,us⟩:=u;have y0:wr.cell? ⟨g,o+i * 5,none⟩=some (.int .i64 uk):=hc 0 _ rfl;have y1:wr.cell? ⟨g,o+i * 5+1,none⟩=some (.int .i64 ui):=hc 1 _ rfl;have y2:wr.cell? ⟨g,o+i * 5+2,none⟩=some (.string ut):=hc 2 _ rfl;have y3:wr.cell? ⟨g,o+i * 5+3,none⟩=some (.slice uA ul.length uc):=hc 3 _ rfl;have y4:wr.cell? ⟨g,o+i * 5+4,none⟩=some (.slice uB us.length ud):=hc 4 _ rfl;have HX2:=q00 (Blk.new wr 43 #[.int .i64 uk,.int .i64 ui,.string ut,.slice uA ul.length uc,.slice uB us.length ud]);have HS3:=q00 (HS2.out.new ((Mod.refl [] wr).alloc (.cells #[.int .i64 uk,.int .i64 ui,.string ut,.slice uA ul.length uc,.slice uB us.length ud] 43)));have hxb0:=HS2.out.bld.lt;have hvx:=HS2.out.v.lt;obtain⟨xb,hxb⟩:∃xb,wr.heap.size=xb:=⟨_,rfl⟩;rw[hxb]at HX2 hxb0 hvx;clear hu huv hc HE;by_cases hi0:i=0
    ·have i0:decide ((0:Int) < (i:Int))=false:=decide_eq_false (by omega);have i0n:decide (0 < i)=false:=decide_eq_false (by omega);have Hi0:=q00 hi0;clear hi0;have z0:(wr.alloc (.cells #[.int .i64 uk,.int .i64 ui,.string ut,.slice uA ul.length uc,.slice uB us.length ud] 43)).cell? ⟨vb,0,none⟩=some (.int .i64 6):=HS3.out.v.cell 0;go_upto_region 11 with fail;obtain⟨w6,hw6⟩:∃w6,wr.alloc (.cells #[.int .i64 uk,.int .i64 ui,.string ut,.slice uA ul.length uc,.slice uB us.length ud] 43)=w6:=⟨_,rfl⟩;rw[hw6]at HX2 HS3 z0 ⊢;clear hw6 z0 hxb;have z0:w6.cell? ⟨vb,0,none⟩=some (.int .i64 6):=HS3.out.v.cell 0;have z4:w6.cell? ⟨vb,4,none⟩=some (.slice xB m xd):=HS3.out.v.cell 4;obtain⟨key,hkey⟩:∃key,xs[i]? =some key:=⟨_,List.getElem?_eq_getElem (by rw[HMm.out,HMn.out];omega)⟩;obtain⟨g4,o4,rfl,hg4,hc4⟩:=(HKeys.out.new HS3.out.mod).at_ hkey;have him:(i:Int) < m:=by have:=HMn.out;omega
     have HKy:=q00 (zf9 hkey);have HQl:Hid ((quo key.data.toList).length+1+acc'.length≤1099511627776):=q00 (by have h1:=HLn.out;have h2:=HSt.out;rw[HKy.out]at h2;have h3:=congrArg List.length h2;simp only[List.length_append,List.length_cons,List.length_nil]at h1 h3 ⊢;(try rw[if_pos Hi0.out]at h3);simp at h3;omega);have HQ:=q00 (fun w=>qx0 w key (by have:=j00 key.data.toList;have h2:=HQl.out;rw[q12]at this;omega));unfold str at HQ;have hsz9:¬9223372036854775807 < (quo key.data.toList).length+1:=by have h2:=HQl.out;omega
     clear hkey;go_wp2_with fail;refine(HQ.out _).mono ?_;rintro e w7 ⟨rfl,m7⟩;have HS7:=q00 (HS3.out.new m7);have HX7:=q00 (m7.blk HX2.out (by simp));clear m7 HQ;go_wp2_with fail;rw[j63];refine(ql9 HS7.out _ (quo key.data.toList++ [58]) (by simp) (by have:=HQl.out;simp only[List.length_append,List.length_cons,List.length_nil]at this ⊢;omega)).mono ?_;rintro e w8 ⟨v8,rfl,hs8,k8⟩;have HS8:=q00 hs8;have HX8:=q00 (k8.blk HX7.out (by omega) (by decide));clear hs8 k8;have b0:w8.cell? ⟨xb,0,none⟩=some (.int .i64 uk):=HX8.out.cell 0;have b1:w8.cell? ⟨xb,1,none⟩=some (.int .i64 ui):=HX8.out.cell 1;have b2:w8.cell? ⟨xb,2,none⟩=some (.string ut):=HX8.out.cell 2;have b3:w8.cell? ⟨xb,3,none⟩=some (.slice uA ul.length uc):=HX8.out.cell 3;have b4:w8.cell? ⟨xb,4,none⟩=some (.slice uB us.length ud):=HX8.out.cell 4;have HEq:Hid (((acc'++ (quo key.data.toList++ [58]))++ jwr (JN.mk uk ui ut uA uc ul uB ud us).v)++ qp true (JN.vs xl) xs (i+1)=acc++ (123 ::q42 true (JN.vs xl) xs)):=q00 (by have h2:=HSt.out;rw[if_pos Hi0.out]at h2;rw[HKy.out]at h2;rw[←h2];simp);have hcall:=HWr.out W w8 B b (d - 1) (acc'++ (quo key.data.toList++ [58])) (JN.mk uk ui ut uA uc ul uB ud us) HUz.out HUm.out HUr.out HUi.out HS8.out.base HS8.out.le HS8.out.mod HS8.out.bld HS8.out.vars (by have h1:=HLn.out;have h3:=congrArg List.length HEq.out;simp only[List.length_append,List.length_cons,List.length_nil]at h1 h3 ⊢;omega);simp only[JN.cells]at hcall;have HCall:=q00 hcall;clear hcall;go_wp2_with fail;refine HCall.out.mono ?_;rintro e w9 ⟨rfl,h9,k9⟩;have HS9:=q00 (HS8.out.wrote h9 k9);clear h9 k9;go_wp2_with fail;go_roundw
     case rel=>exact⟨i+1,_,by omega,by go_num,HS9,HEq⟩
     case measure=>simp[intOf];omega
    ·have i0:(0:Int) < (i:Int):=(by omega);have Hi0:=q00 hi0;clear hi0;have HLc:Hid (acc'.length+2≤1099511627776):=q00 (by have h1:=HLn.out;have h2:=congrArg List.length HSt.out;rw[if_neg Hi0.out]at h2;simp only[List.length_append,List.length_cons,List.length_nil]at h1 h2 ⊢;omega);go_wp2_with fail;refine(j24 HS3.out 44 44 rfl (by have:=HLc.out;omega)).mono ?_;rintro e w6 ⟨v6,rfl,hs6,k6⟩;have HS6:=q00 hs6;have HX6:=q00 (k6.blk HX2.out (by omega) (by decide));clear hs6 k6 hxb;go_upto_region 11 with fail;have z0:w6.cell? ⟨vb,0,none⟩=some (.int .i64 6):=HS6.out.v.cell 0;have z4:w6.cell? ⟨vb,4,none⟩=some (.slice xB m xd):=HS6.out.v.cell 4;obtain⟨key,hkey⟩:∃key,xs[i]? =some key:=⟨_,List.getElem?_eq_getElem (by rw[HMm.out,HMn.out];omega)⟩;obtain⟨g4,o4,rfl,hg4,hc4⟩:=(HKeys.out.new HS6.out.mod).at_ hkey;have him:(i:Int) < m:=by have:=HMn.out;omega
     have HKy:=q00 (zf9 hkey);have HQl:Hid ((quo key.data.toList).length+1+(acc'++ [44]).length≤1099511627776):=q00 (by have h1:=HLn.out;have h2:=HSt.out;rw[HKy.out]at h2;have h3:=congrArg List.length h2;simp only[List.length_append,List.length_cons,List.length_nil]at h1 h3 ⊢;(try rw[if_neg Hi0.out]at h3);simp at h3;omega);have HQ:=q00 (fun w=>qx0 w key (by have:=j00 key.data.toList;have h2:=HQl.out;rw[q12]at this;omega));unfold str at HQ;have hsz9:¬9223372036854775807 < (quo key.data.toList).length+1:=by have h2:=HQl.out;omega
     clear hkey;go_wp2_with fail;refine(HQ.out _).mono ?_;rintro e w7 ⟨rfl,m7⟩;have HS7:=q00 (HS6.out.new m7);have HX7:=q00 (m7.blk HX6.out (by simp));clear m7 HQ;go_wp2_with fail;rw[j63];refine(ql9 HS7.out _ (quo key.data.toList++ [58]) (by simp) (by have:=HQl.out;simp only[List.length_append,List.length_cons,List.length_nil]at this ⊢;omega)).mono ?_;rintro e w8 ⟨v8,rfl,hs8,k8⟩;have HS8:=q00 hs8;have HX8:=q00 (k8.blk HX7.out (by omega) (by decide));clear hs8 k8;have b0:w8.cell? ⟨xb,0,none⟩=some (.int .i64 uk):=HX8.out.cell 0;have b1:w8.cell? ⟨xb,1,none⟩=some (.int .i64 ui):=HX8.out.cell 1;have b2:w8.cell? ⟨xb,2,none⟩=some (.string ut):=HX8.out.cell 2;have b3:w8.cell? ⟨xb,3,none⟩=some (.slice uA ul.length uc):=HX8.out.cell 3;have b4:w8.cell? ⟨xb,4,none⟩=some (.slice uB us.length ud):=HX8.out.cell 4;have HEq:Hid ((((acc'++ [44])++ (quo key.data.toList++ [58]))++ jwr (JN.mk uk ui ut uA uc ul uB ud us).v)++ qp true (JN.vs xl) xs (i+1)=acc++ (123 ::q42 true (JN.vs xl) xs)):=q00 (by have h2:=HSt.out;rw[if_neg Hi0.out]at h2;rw[HKy.out]at h2;rw[←h2];simp);have hcall:=HWr.out W w8 B b (d - 1) ((acc'++ [44])++ (quo key.data.toList++ [58])) (JN.mk uk ui ut uA uc ul uB ud us) HUz.out HUm.out HUr.out HUi.out HS8.out.base HS8.out.le HS8.out.mod HS8.out.bld HS8.out.vars (by have h1:=HLn.out;have h3:=congrArg List.length HEq.out;simp only[List.length_append,List.length_cons,List.length_nil]at h1 h3 ⊢;omega);simp only[JN.cells]at hcall;have HCall:=q00 hcall;clear hcall;go_wp2_with fail;refine HCall.out.mono ?_;rintro e w9 ⟨rfl,h9,k9⟩;have HS9:=q00 (HS8.out.wrote h9 k9);clear h9 k9;go_wp2_with fail;go_roundw
     case rel=>exact⟨i+1,_,by omega,by go_num,HS9,HEq⟩
     case measure=>simp[intOf];omega
   ·have hin:i=n:=(by omega);subst hin;have HE2:=q00 HE.out;rw[je8 (by rw[JN.vs_len,HN.out];exact Nat.le_refl _),List.append_nil]at HE2;have HSe:=q00 HS2.out;rw[HE2.out]at HSe;go_wp2_with fail;refine(j24 HSe.out 125 _ rfl (by have:=HLn.out;omega)).mono ?_;rintro e w3 ⟨v,rfl,hs3,_⟩;have HS4:=q00 hs3;clear hs3;go_wp2_with fail;refine⟨rfl,_,results_none rfl _ _ _,?_⟩;refine⟨rfl,?_,HS4.out.step⟩;have:=HS4.out.bld;simpa using this
theorem j46:∀n,zs3 n
 | 0=>fun W w B b d acc x h=>by cases x;rw[JN.sz]at h;omega
 | n+1=>jl2 n (j46 n)
theorem JVars.mono {B B':Nat} {w:World} (h:JVars B w) (hB:B≤B'):JVars B' w:=fun w' hb=>h w' (hb.mono hB)
theorem za (w:World) (x:JN) (hx:JIn w x) (hr:qh7 x.v=true) (hl:(jwr x.v).length≤1099511627776) (B:Nat) (hB:B≤w.heap.size) (hv:JVars B w) (b:Bool) (hb:q27 8 x.v=b):
  Calls Tryz.prog 84 #[.agg x.cells] w fun e w'=>e=.returned (.tuple #[str (if b then jwr x.v else []),.int .i64 (if b then 0 else 2)])∧Mod [] w w':=by
 have HMay:=q00 (fun w' (m:Mod [] w w')=>jn6 w' x (hx.new m) b hb)
 have HWr:=q00 (fun (w':World) (m:Mod [] w w') (bb:Nat) (hbb:BldO w' w.heap.size bb []) (hb':b=true)=>
  j46 x.sz w w' w.heap.size bb 8 [] x (Nat.le_refl _) (hb.trans hb') hr hx (Nat.le_refl _) m.size m hbb ((hv.mono hB).mod m (Nat.le_refl _) (by simp)) (by simpa using hl))
 obtain⟨J,hJ⟩:∃J,jwr x.v=J:=⟨_,rfl⟩;rw[hJ]at HWr ⊢;obtain⟨c0,c1,c2,c3,n3,d3,c4,n4,d4,hcx⟩:∃c0 c1 c2 c3 n3 d3 c4 n4 d4,x.cells= #[.int .i64 c0,.int .i64 c1,.string c2,.slice c3 n3 d3,.slice c4 n4 d4]:=(by cases x;exact⟨_,_,_,_,_,_,_,_,_,rfl⟩);rw[hcx]at HMay HWr ⊢;have HM0:=q00 ((Mod.refl [] w).alloc (.cells #[.int .i64 c0,.int .i64 c1,.string c2,.slice c3 n3 d3,.slice c4 n4 d4] 43));have HB0:=q00 (Blk.new w 43 #[.int .i64 c0,.int .i64 c1,.string c2,.slice c3 n3 d3,.slice c4 n4 d4]);clear hx hr hl hv hb hJ hcx hB;go_enter Tryz.func84,Tryz.ntmps84;go_wp2_with fail;refine(HMay.out _ HM0.out).mono ?_;rintro e w2 ⟨rfl,m2⟩;have HM2:=q00 (HM0.out.trans m2 (by simp));have HB2:=q00 (m2.blk HB0.out (by simp));clear m2;cases b with
 | false=>go_wp2_with fail;go_ret2;exact⟨rfl,HM2.out⟩
 | true=>have HB3:=q00 (HB2.out.alloc (.cells #[.pointer none,.slice none 0 0] 102));have HM3:=q00 (HM2.out.alloc (.cells #[.pointer none,.slice none 0 0] 102));have HBl:=q00 ((BldO.new w2 w.heap.size HM2.out.size));have q0:(w2.alloc (.cells #[.pointer none,.slice none 0 0] 102)).cell? ⟨w.heap.size,0,none⟩=some (.int .i64 c0):=HB3.out.cell 0;have q1:(w2.alloc (.cells #[.pointer none,.slice none 0 0] 102)).cell? ⟨w.heap.size,1,none⟩=some (.int .i64 c1):=HB3.out.cell 1;have q2:(w2.alloc (.cells #[.pointer none,.slice none 0 0] 102)).cell? ⟨w.heap.size,2,none⟩=some (.string c2):=HB3.out.cell 2;have q3:(w2.alloc (.cells #[.pointer none,.slice none 0 0] 102)).cell? ⟨w.heap.size,3,none⟩=some (.slice c3 n3 d3):=HB3.out.cell 3;have q4:(w2.alloc (.cells #[.pointer none,.slice none 0 0] 102)).cell? ⟨w.heap.size,4,none⟩=some (.slice c4 n4 d4):=HB3.out.cell 4;have HCall:=q00 (HWr.out _ HM3.out _ HBl.out rfl);go_wp2_with fail;refine HCall.out.mono ?_;rintro e w4 ⟨rfl,h4,k4⟩;have HM4:=q00 (k4.mod HM3.out (Nat.le_refl _));have HS4:=q00 (qb1 w4 w.heap.size _ _ h4 HM4.out.size);clear h4 k4;go_wp2_with fail;refine HS4.out.mono ?_;rintro e w5 ⟨rfl,k5⟩;have HM5:=q00 (k5.mod HM4.out (Nat.le_refl _));clear k5;go_wp2_with fail;go_ret2;exact⟨rfl,HM5.out⟩
end Go.Proofs.YtlfjhgamlkbofaaGreatDoor
