/-
  Contracts of the functions that the laws of this seat reach, and plain laws, part 2 of 17; no condition.
-/
import Derived.Test.YtlfjhgamlkbofaaGreatDoorWC
import Derived.Lib.ConvBytes
import Derived.Laws.Cover1
import Derived.Deep.RegionHeld3
set_option linter.unusedVariables false
set_option linter.unusedSimpArgs false
set_option linter.unnecessarySimpa false
set_option maxRecDepth 100000
set_option maxHeartbeats 16000000
namespace Go.Proofs.YtlfjhgamlkbofaaGreatDoor
open Go.RowKit
def qj:Nat→List UInt8→Option (List Nat×List UInt8)
 | 0,s=>some ([],s)
 | n+1,s=>(q58 s).bind fun x=>(qj n x.2).map fun y=>(x.1 ::y.1,y.2)
def j18:Nat→Nat→List UInt8→Option (List (Nat×Nat)×List UInt8)
 | 0,high,s=>(q58 s).bind fun x=>if high < x.1 then none else some ([(high - x.1,high)],x.2)
 | k+1,high,s=>(q58 s).bind fun x=>if high < x.1 then none else(q58 x.2).bind fun y=>if high - x.1 < y.1+2 then none else
   (j18 k (high - x.1 - y.1 - 2) y.2).map fun z=>((high - x.1,high) ::z.1,z.2)
def j38 (s:List UInt8):Option ((Nat×List (Nat×Nat))×List UInt8):=
 (q58 s).bind fun h=>(q58 h.2).bind fun a=>(q58 a.2).bind fun m=>if 64≤m.1 then none else(j18 m.1 h.1 m.2).map fun z=>((a.1,z.1),z.2)
def ja1 (k:Nat) (s:List UInt8):Option (Fr×List UInt8):=
 (j38 s).bind fun x=>if k=3 then(q58 x.2).bind fun b=>(q58 b.2).bind fun c=>(q58 c.2).map fun m=>(⟨k,x.1.1,b.1,c.1,false,⟨#[]⟩,⟨(be m.1 8).toArray⟩,x.1.2⟩,m.2)
  else some (⟨k,x.1.1,0,0,false,⟨#[]⟩,⟨#[]⟩,x.1.2⟩,x.2)
def j0 (k:Nat) (s:List UInt8):Option (Fr×List UInt8):=
 (q58 s).bind fun a=>(if k / 4 % 2=1 then(q58 a.2).bind fun b=>if b.1=0 then none else some b else some (0,a.2)).bind fun b=>
  if k / 2 % 2=0 then none else(q67 b.2).map fun d=>(⟨8,a.1,b.1,0,decide (k % 2=1),⟨d.1.toArray⟩,⟨#[]⟩,[]⟩,d.2)
def zh9 (s:List UInt8):Option (Fr×List UInt8):=
 (q58 s).bind fun a=>(q58 a.2).bind fun b=>match b.2 with
  | []=>none
  | n ::t=>(qg9 n.toNat t).bind fun d=>(qg9 16 d.2).map fun m=>(⟨24,a.1,b.1,0,false,⟨d.1.toArray⟩,⟨m.1.toArray⟩,[]⟩,m.2)
def qx (k:Nat) (sh:Shp) (s:List UInt8):Option (Fr×List UInt8):=
 (qj sh.n s).bind fun x=>
  if sh.t then(q67 x.2).map fun d=>(⟨k,x.1.getD 0 0,x.1.getD 1 0,x.1.getD 2 0,false,⟨d.1.toArray⟩,⟨#[]⟩,[]⟩,d.2)
  else if 0 < sh.x then(qg9 sh.x x.2).map fun d=>(⟨k,x.1.getD 0 0,x.1.getD 1 0,x.1.getD 2 0,false,⟨d.1.toArray⟩,⟨#[]⟩,[]⟩,d.2)
  else some (⟨k,x.1.getD 0 0,x.1.getD 1 0,x.1.getD 2 0,false,⟨#[]⟩,⟨#[]⟩,[]⟩,x.2)
def qd8 (s:List UInt8):Nat:=(s.takeWhile (· ==0)).length
def zv0 (s:List UInt8):Fr×List UInt8:=(⟨0,min (qd8 s) 16383+1,0,0,false,⟨#[]⟩,⟨#[]⟩,[]⟩,s.drop (min (qd8 s) 16383))
def qg1 (s:List UInt8):Option (Fr×List UInt8):=
 (q58 s).bind fun x=>match q16 x.1 with
  | some sh=>qx x.1 sh x.2
  | none=>if x.1=0 then some (zv0 x.2)else if x.1=2∨x.1=3 then ja1 x.1 x.2 else if 8≤x.1∧x.1 < 16 then j0 x.1 x.2 else if x.1=24 then zh9 x.2 else none
def qm6 (s:List UInt8):Option (Fr×List UInt8):=(qg1 s).bind fun x=>if q31 x.1 then some x else none
theorem jf7:∀(ns:List Nat) (r:List UInt8),(∀n∈ns,n < 4611686018427387904)→qj ns.length ((ns.map q03).flatten++ r)=some (ns,r)
 | [],r,_=>rfl
 | n ::ns,r,h=>by
  rw[List.length_cons,List.map_cons,List.flatten_cons,List.append_assoc,qj,q29 (h n (by simp))]
  simp only[Option.bind_some]
  rw[jf7 ns r (fun m hm=>h m (by simp[hm]))]
  rfl
theorem ja3:∀(n:Nat) (s:List UInt8) (ns:List Nat) (r:List UInt8),qj n s=some (ns,r)→ns.length=n∧s=(ns.map q03).flatten++ r∧∀n∈ns,n < 4611686018427387904
 | 0,s,ns,r,h=>by
  simp only[qj,Option.some.injEq,Prod.mk.injEq]at h
  obtain⟨rfl,rfl⟩:=h
  exact⟨rfl,rfl,by simp⟩
 | n+1,s,ns,r,h=>by
  rw[qj]at h
  obtain⟨⟨m,t⟩,h1,h2⟩:=Option.bind_eq_some_iff.1 h
  obtain⟨⟨ms,r2⟩,h3,h4⟩:=Option.map_eq_some_iff.1 h2
  simp only[Prod.mk.injEq]at h4
  obtain⟨rfl,rfl⟩:=h4
  obtain⟨rfl,h5⟩:=q25 h1
  obtain⟨h6,h7,h8⟩:=ja3 n _ _ _ h3
  simp only at h7
  refine⟨by simp[h6],by rw[h7];simp,?_⟩
  intro k hk
  rcases List.mem_cons.1 hk with rfl | hk
  ·exact h5
  ·exact h8 k hk
theorem q55 {f:Fr} (h:q31 f=true):f.a < 4611686018427387904∧f.b < 4611686018427387904∧f.c < 4611686018427387904∧f.data.size≤16384∧
  (match q16 f.kind with | none=>qa8 f | some s=>qd s f && (decide (s.x=0) || decide (f.data.size=s.x)) && qm4 f)=true:=by
 unfold q31 at h;simp only[Bool.and_eq_true,decide_eq_true_eq]at h;exact⟨h.1.1.1.1,h.1.1.1.2,h.1.1.2,h.1.2,h.2⟩
theorem q77 {k:Nat} {s:Shp} (h:q16 k=some s):k < 31∧s.n≤3∧k≠0:=by
 unfold q16 at h
 repeat' split at h
 all_goals first | (cases h;done) | (cases h;exact⟨by omega,by simp,by omega⟩)
theorem zz6 {a b c n:Nat} (h:n≤3) (h1:1≤n∨a=0) (h2:2≤n∨b=0) (h3:3≤n∨c=0):
  ([a,b,c].take n).getD 0 0=a∧([a,b,c].take n).getD 1 0=b∧([a,b,c].take n).getD 2 0=c∧([a,b,c].take n).length=n:=by
 match n,h with
 | 0,_=>refine⟨?_,?_,?_,rfl⟩ <;> (simp;omega)
 | 1,_=>refine⟨rfl,?_,?_,rfl⟩ <;> (simp;omega)
 | 2,_=>refine⟨rfl,rfl,?_,rfl⟩ ;(simp;omega)
 | 3,_=>exact⟨rfl,rfl,rfl,rfl⟩
theorem qz {s:Shp} {f:Fr} (h:qd s f=true):(1≤s.n∨f.a=0)∧(2≤s.n∨f.b=0)∧(3≤s.n∨f.c=0)∧f.fin=false∧(s.t=true∨0 < s.x∨f.data.size=0)∧f.more.size=0∧f.list= []:=by unfold qd at h;simp only[Bool.and_eq_true,Bool.or_eq_true,decide_eq_true_eq,Bool.not_eq_true']at h;obtain⟨⟨⟨⟨⟨⟨h1,h2⟩,h3⟩,h4⟩,h5⟩,h6⟩,h7⟩:=h;exact⟨h1,h2,h3,h4,by rcases h5 with(h | h) | h <;> simp[h],h6,h7⟩
theorem jv7 {f:Fr} {s:Shp} (hn:s.n≤3) (ha:f.a < 4611686018427387904) (hb:f.b < 4611686018427387904) (hc:f.c < 4611686018427387904) (hd:f.data.size≤16384)
  (hcl:qd s f=true) (hx:s.x=0∨f.data.size=s.x) (r:List UInt8):qx f.kind s (qc5 s.n f++ (qm7 s f++ r))=some (f,r):=by
 obtain⟨c1,c2,c3,c4,c5,c6,c7⟩:=qz hcl;obtain⟨t1,t2,t3,t4⟩:=zz6 hn c1 c2 c3;have hnum:=jf7 ([f.a,f.b,f.c].take s.n) (qm7 s f++ r) (fun n hn=>by have:=List.mem_of_mem_take hn;simp at this;rcases this with rfl | rfl | rfl <;> assumption);rw[t4]at hnum;unfold qx qc5;rw[hnum];simp only[Option.bind_some];rw[t1,t2,t3];have hm:=qn c6;unfold qm7;cases ht:s.t
 ·simp only[Bool.false_eq_true,if_false];by_cases h0:0 < s.x
  ·rw[if_pos h0,if_pos h0];have e:s.x=f.data.data.toList.length:=(by rw[q05];omega);rw[e,qu9];simp only[Option.map_some,q36];rw[←hm,←c7,←c4]
  ·rw[if_neg h0,if_neg h0];have hz:f.data.size=0:=by
    rcases c5 with h | h | h
    ·rw[ht]at h;cases h
    ·omega
    ·exact h
   rw[←qn hz];simp only[List.nil_append];have hm2:f.more=f.data:=by rw[hm,←qn hz]
   conv=>rhs;rw[show f=⟨f.kind,f.a,f.b,f.c,f.fin,f.data,f.more,f.list⟩from rfl]
   rw[hm2,c7,c4]
 ·simp only[if_true];unfold qf6;rw[List.append_assoc];have e:f.data.size=f.data.data.toList.length:=(q05 _).symm;rw[e,qp5 _ _ (by rw[q05];omega)];simp only[Option.map_some,q36];rw[←hm,←c7,←c4]
theorem qq8 {prev:Option Nat} {r:Nat×Nat} {t:List (Nat×Nat)} (h:q56 prev (r ::t)=true):r.1≤r.2∧r.2 < 4611686018427387904∧(∀p,prev=some p→2≤p∧r.2≤p - 2)∧q56 (some r.1) t=true:=by unfold q56 at h;simp only[Bool.and_eq_true,decide_eq_true_eq]at h;refine⟨h.1.1.1,h.1.1.2,?_,h.2⟩;rintro p rfl;simpa using h.1.2
theorem jp9:∀(t:List (Nat×Nat)) (r:Nat×Nat) (rest:List UInt8),r.1≤r.2→r.2 < 4611686018427387904→q56 (some r.1) t=true→
  j18 t.length r.2 (q03 (r.2 - r.1)++ (qa5 r.1 t++ rest))=some (r ::t,rest)
 | [],r,rest,h1,h2,_=>by
  rw[List.length_nil,j18,q29 (by omega)]
  simp only[Option.bind_some,qa5,List.nil_append]
  rw[if_neg (by omega),show r.2 - (r.2 - r.1)=r.1 by omega]
 | q ::t,r,rest,h1,h2,h3=>by
  obtain⟨q1,q2,q3,q4⟩:=qq8 h3
  obtain⟨q5,q6⟩:=q3 _ rfl
  rw[List.length_cons,j18,q29 (by omega)]
  simp only[Option.bind_some]
  rw[if_neg (by omega),qa5,List.append_assoc,q29 (by omega)]
  simp only[Option.bind_some]
  rw[if_neg (by omega),show r.2 - (r.2 - r.1) - (r.1 - q.2 - 2) - 2=q.2 by omega,List.append_assoc,jp9 t q rest q1 q2 q4]
  simp only[Option.map_some]
  rw[show r.2 - (r.2 - r.1)=r.1 by omega]
theorem jf8:∀(k high:Nat) (s:List UInt8) (l:List (Nat×Nat)) (rest:List UInt8),high < 4611686018427387904→j18 k high s=some (l,rest)→
  ∃r t,l=r ::t∧t.length=k∧r.2=high∧r.1≤r.2∧q56 (some r.1) t=true∧s=q03 (r.2 - r.1)++ (qa5 r.1 t++ rest)
 | 0,high,s,l,rest,hh,h=>by
  rw[j18]at h
  obtain⟨⟨m,u⟩,h1,h2⟩:=Option.bind_eq_some_iff.1 h
  obtain⟨rfl,h3⟩:=q25 h1
  simp only at h2
  split at h2
  ·cases h2
  ·cases h2
   refine⟨_,[],rfl,rfl,rfl,by simp,rfl,?_⟩
   simp only[qa5,List.nil_append]
   rw[show high - (high - m)=m by omega]
 | k+1,high,s,l,rest,hh,h=>by
  rw[j18]at h
  obtain⟨⟨m,u⟩,h1,h2⟩:=Option.bind_eq_some_iff.1 h
  obtain⟨rfl,h3⟩:=q25 h1
  simp only at h2
  split at h2
  ·cases h2
  ·obtain⟨⟨g,v⟩,h4,h5⟩:=Option.bind_eq_some_iff.1 h2
   obtain⟨rfl,h6⟩:=q25 h4
   simp only at h5
   split at h5
   ·cases h5
   ·obtain⟨⟨l2,r2⟩,h7,h8⟩:=Option.map_eq_some_iff.1 h5
    simp only[Prod.mk.injEq]at h8
    obtain⟨rfl,rfl⟩:=h8
    obtain⟨q,t,rfl,h9,h10,h11,h12,rfl⟩:=jf8 k _ _ _ _ (by omega) h7
    refine⟨_,q ::t,rfl,by simp[h9],rfl,by simp,?_,?_⟩
    ·unfold q56
     simp only[Bool.and_eq_true,decide_eq_true_eq]
     exact⟨⟨⟨h11,by omega⟩,by omega,by omega⟩,h12⟩
    ·simp only[qa5]
     rw[show high - (high - m)=m by omega,show high - m - q.2 - 2=g by omega]
     simp only[List.append_assoc]
theorem jw4 {l:List (Nat×Nat)} (h:rngs l=true):∃r t,l=r ::t∧t.length≤63∧r.1≤r.2∧r.2 < 4611686018427387904∧q56 (some r.1) t=true:=by
 unfold rngs at h;simp only[Bool.and_eq_true,decide_eq_true_eq]at h;obtain⟨h1,h2,h3⟩:=h;cases l with
 | nil=>simp at h2
 | cons r t=>obtain⟨q1,q2,_,q4⟩:=qq8 h1;exact⟨r,t,rfl,by simp at h3;omega,q1,q2,q4⟩
theorem zq {r:Nat×Nat} {t:List (Nat×Nat)} (h1:t.length≤63) (h2:r.1≤r.2) (h3:r.2 < 4611686018427387904) (h4:q56 (some r.1) t=true):rngs (r ::t)=true:=by unfold rngs q56;simp only[Bool.and_eq_true,decide_eq_true_eq,List.length_cons];exact⟨⟨⟨⟨h2,h3⟩,trivial⟩,h4⟩,by omega,by omega⟩
theorem z62 {r:Nat×Nat} {t:List (Nat×Nat)} {a:Nat} (ha:a < 4611686018427387904) (h1:t.length≤63) (h2:r.1≤r.2) (h3:r.2 < 4611686018427387904) (h4:q56 (some r.1) t=true) (rest:List UInt8):
  j38 (q03 r.2++ (q03 a++ (q03 t.length++ (q03 (r.2 - r.1)++ (qa5 r.1 t++ rest)))))=some ((a,r ::t),rest):=by
 unfold j38;rw[q29 h3];simp only[Option.bind_some];rw[q29 ha];simp only[Option.bind_some];rw[q29 (by omega)];simp only[Option.bind_some];rw[if_neg (by omega),jp9 t r rest h2 h3 h4];rfl
theorem jv4 {s rest:List UInt8} {a:Nat} {l:List (Nat×Nat)} (h:j38 s=some ((a,l),rest)):
  ∃r t,l=r ::t∧a < 4611686018427387904∧rngs l=true∧s=q03 r.2++ (q03 a++ (q03 t.length++ (q03 (r.2 - r.1)++ (qa5 r.1 t++ rest)))):=by
 unfold j38 at h;obtain⟨⟨hi,s1⟩,h1,h2⟩:=Option.bind_eq_some_iff.1 h;obtain⟨rfl,b1⟩:=q25 h1;obtain⟨⟨a',s2⟩,h3,h4⟩:=Option.bind_eq_some_iff.1 h2;obtain⟨rfl,b2⟩:=q25 h3;obtain⟨⟨m,s3⟩,h5,h6⟩:=Option.bind_eq_some_iff.1 h4;obtain⟨rfl,b3⟩:=q25 h5;simp only at h6
 split at h6
 ·cases h6
 ·obtain⟨⟨l',r'⟩,h7,h8⟩:=Option.map_eq_some_iff.1 h6;simp only[Prod.mk.injEq]at h8;obtain⟨⟨rfl,rfl⟩,rfl⟩:=h8;obtain⟨r,t,rfl,h9,rfl,h11,h12,rfl⟩:=jf8 _ _ _ _ _ b1 h7;subst h9;exact⟨r,t,rfl,b2,zq (by omega) h11 b1 h12,rfl⟩
theorem jh1 (n:Nat) (r:List UInt8):qd8 (List.replicate n 0++ r)=n+qd8 r:=by
 unfold qd8;induction n with
 | zero=>simp
 | succ n ih=>rw[List.replicate_succ,List.cons_append,List.takeWhile_cons_of_pos (by rfl),List.length_cons,ih];omega
theorem qy1:∀(r:List UInt8) (n:Nat),n≤qd8 r→r.take n=List.replicate n 0
 | r,0,_=>by simp
 | [],n+1,h=>by simp[qd8]at h
 | c ::r,n+1,h=>by
  unfold qd8 at h
  by_cases hc:c=0
  ·subst hc
   rw[List.takeWhile_cons_of_pos (by rfl),List.length_cons]at h
   rw[List.take_succ_cons,List.replicate_succ,qy1 r n (by unfold qd8;omega)]
  ·rw[List.takeWhile_cons_of_neg (by simpa using hc)]at h
   simp at h
def jh2 (f:Fr) (r:List UInt8):Prop:=f.kind=0→f.a=16384∨qd8 r=0
theorem zk6:q03 0= [0]:=by decide+kernel
theorem j17 {f:Fr} (h:qa8 f=true):f.kind=0∨f.kind=2∨f.kind=3∨f.kind=8∨f.kind=24:=by
 unfold qa8 at h;by_cases h0:f.kind=0
 ·exact .inl h0
 ·rw[if_neg h0]at h;by_cases h2:f.kind=2∨f.kind=3
  ·omega
  ·rw[if_neg h2]at h;by_cases h8:f.kind=8
   ·omega
   ·rw[if_neg h8]at h;by_cases h24:f.kind=24
    ·omega
    ·rw[if_neg h24]at h;cases h
theorem zv {f:Fr} (hk:f.kind=0) (h:qa8 f=true):1≤f.a∧f.a≤16384∧f=⟨0,f.a,0,0,false,⟨#[]⟩,⟨#[]⟩,[]⟩:=by unfold qa8 at h;rw[if_pos hk]at h;simp only[Bool.and_eq_true,decide_eq_true_eq,Bool.not_eq_true']at h;obtain⟨⟨⟨⟨⟨⟨⟨h1,h2⟩,h3⟩,h4⟩,h5⟩,h6⟩,h7⟩,h8⟩:=h;exact⟨h1,h2,Fr.ext' hk rfl h4 h5 h6 (qn h7) (qn h8) h3⟩
theorem zy4 {f:Fr} (hk:f.kind=8) (h:qa8 f=true):f.b+f.data.size < 4611686018427387904∧f=⟨8,f.a,f.b,0,f.fin,f.data,⟨#[]⟩,[]⟩:=by unfold qa8 at h;rw[if_neg (by omega),if_neg (by omega),if_pos hk]at h;simp only[Bool.and_eq_true,decide_eq_true_eq]at h;obtain⟨⟨⟨h1,h2⟩,h3⟩,h4⟩:=h;exact⟨h4,Fr.ext' hk rfl rfl h2 rfl rfl (qn h3) h1⟩
theorem zr7 {f:Fr} (hk:f.kind=24) (h:qa8 f=true):f.b≤f.a∧1≤f.data.size∧f.data.size≤20∧f.more.size=16∧f=⟨24,f.a,f.b,0,false,f.data,f.more,[]⟩:=by unfold qa8 at h;rw[if_neg (by omega),if_neg (by omega),if_neg (by omega),if_pos hk]at h;simp only[Bool.and_eq_true,decide_eq_true_eq,Bool.not_eq_true']at h;obtain⟨⟨⟨⟨⟨⟨h1,h2⟩,h3⟩,h4⟩,h5⟩,h6⟩,h7⟩:=h;exact⟨h4,h5,h6,h7,Fr.ext' hk rfl rfl h2 h3 rfl rfl h1⟩
theorem zy5 {f:Fr} (hk:f.kind=2∨f.kind=3) (h:qa8 f=true):rngs f.list=true∧f.fin=false∧f.data=⟨#[]⟩∧(f.kind=2→f.b=0∧f.c=0∧f.more=⟨#[]⟩)∧(f.kind=3→f.more.size=8∧q52 0 f.more.data.toList < 4611686018427387904):=by
 unfold qa8 at h;rw[if_neg (by omega),if_pos hk]at h;unfold qv4 at h;simp only[Bool.and_eq_true,decide_eq_true_eq,Bool.not_eq_true']at h;obtain⟨h1,⟨h2,h3⟩,h4⟩:=h;refine⟨h4,h2,qn h3,fun h5=> ?_,fun h5=> ?_⟩
 ·rw[if_neg (by omega)]at h1;simp only[Bool.and_eq_true,decide_eq_true_eq]at h1;exact⟨h1.1.1,h1.1.2,qn h1.2⟩
 ·rw[if_pos h5]at h1;simpa using h1
theorem qe3 {k:Nat} (h:k=0∨k=2∨k=3∨(8≤k∧k < 16)∨k=24):q16 k=none:=by unfold q16;repeat rw[if_neg (by omega)]
theorem jv5 {f:Fr} (h:q31 f=true) (r:List UInt8) (hz:jh2 f r):qg1 (q15 f++ r)=some (f,r):=by
 obtain⟨ha,hb,hc,hd,hm⟩:=q55 h;unfold q15;cases hs:q16 f.kind with
 | some s=>rw[hs]at hm;simp only[Bool.and_eq_true,Bool.or_eq_true,decide_eq_true_eq]at hm;obtain⟨⟨h1,h2⟩,_⟩:=hm;obtain⟨hk,hn,_⟩:=q77 hs;simp only;unfold qg1;rw[List.append_assoc,q29 (by omega)];simp only[Option.bind_some];rw[hs];simp only;rw[List.append_assoc,jv7 hn ha hb hc hd h1 h2]
 | none=>
  rw[hs]at hm;simp only at hm ⊢;unfold qa9;by_cases h0:f.kind=0
  ·rw[if_pos h0];obtain⟨a1,a2,e⟩:=zv h0 hm;obtain⟨n,hn⟩:∃n,f.a=n+1:=⟨f.a - 1,by omega⟩;have e1:List.replicate f.a (0:UInt8)++ r=q03 0++ (List.replicate n 0++ r):=(by rw[hn,List.replicate_succ,zk6];rfl);unfold qg1;rw[e1,q29 (by omega)];simp only[Option.bind_some];rw[qe3 (.inl rfl)];simp only[if_true];unfold zv0;rw[jh1];have hmin:min (n+qd8 r) 16383=n:=(by rcases hz h0 with h1 | h1 <;> omega);rw[hmin,List.drop_left' (by simp)]
   conv=>rhs;rw[e]
   rw[hn]
  ·rw[if_neg h0];by_cases h8:f.kind=8
   ·rw[if_pos h8];obtain⟨b1,e⟩:=zy4 h8 hm;unfold q38;have hk16:10+(if f.b=0 then 0 else 4)+(if f.fin then 1 else 0) < 16:=(by split <;> split <;> omega);have hk8:8≤10+(if f.b=0 then 0 else 4)+(if f.fin then 1 else 0):=(by omega);have hb4:(10+(if f.b=0 then 0 else 4)+(if f.fin then 1 else 0)) / 4 % 2=if f.b=0 then 0 else 1:=(by split <;> split <;> rfl);have hb2:(10+(if f.b=0 then 0 else 4)+(if f.fin then 1 else 0)) / 2 % 2=1:=(by split <;> split <;> rfl);have hb1:decide ((10+(if f.b=0 then 0 else 4)+(if f.fin then 1 else 0)) % 2=1)=f.fin:=(by cases f.fin <;> split <;> rfl);obtain⟨k,hk⟩:∃k,10+(if f.b=0 then 0 else 4)+(if f.fin then 1 else 0)=k:=⟨_,rfl⟩;rw[hk]at hk16 hk8 hb4 hb2 hb1 ⊢;unfold qg1;rw[List.append_assoc,q29 (by omega)];simp only[Option.bind_some];rw[qe3 (by omega)];simp only;rw[if_neg (by omega),if_neg (by omega),if_pos ⟨hk8,hk16⟩];unfold j0;rw[List.append_assoc,q29 ha];simp only[Option.bind_some];have htx:q67 (qf6 f.data++ r)=some (f.data.data.toList,r):=(by unfold qf6;have e:f.data.size=f.data.data.toList.length:=(q05 _).symm;rw[List.append_assoc,e,qp5 _ _ (by rw[q05];omega)]);rw[hb4,hb2,hb1];by_cases hb0:f.b=0
    ·rw[if_pos hb0,if_pos hb0,if_neg (by omega)];simp only[Option.bind_some,List.nil_append];rw[if_neg (by omega),htx];simp only[Option.map_some,q36]
     conv=>rhs;rw[e]
     rw[hb0]
    ·rw[if_neg hb0,if_neg hb0,if_pos rfl,List.append_assoc,q29 hb];simp only[Option.bind_some];rw[if_neg hb0];simp only[Option.bind_some];rw[if_neg (by omega),htx];simp only[Option.map_some,q36]
     conv=>rhs;rw[e]
   ·rw[if_neg h8];by_cases h24:f.kind=24
    ·rw[if_pos h24];obtain⟨b1,b2,b3,b4,e⟩:=zr7 h24 hm;unfold z36 qg1;rw[List.append_assoc,q29 (by omega)];simp only[Option.bind_some];rw[qe3 (by omega)];simp only;rw[if_neg (by omega),if_neg (by omega),if_neg (by omega),if_pos trivial];unfold zh9;rw[List.append_assoc,q29 ha];simp only[Option.bind_some];rw[List.append_assoc,q29 hb];simp only[Option.bind_some,List.cons_append];have e1:(UInt8.ofNat f.data.size).toNat=f.data.data.toList.length:=(by rw[q05,UInt8.toNat_ofNat'];omega);rw[e1,List.append_assoc,qu9];simp only[Option.bind_some];have e2:(16:Nat)=f.more.data.toList.length:=(by rw[q05,b4]);rw[e2,qu9];simp only[Option.map_some,q36]
     conv=>rhs;rw[e]
    ·rw[if_neg h24];have hk:f.kind=2∨f.kind=3:=by have:=j17 hm;omega
     obtain⟨o1,o2,o3,o4,o5⟩:=zy5 hk hm;obtain⟨q,t,hl,ht,q1,q2,q3⟩:=jw4 o1;unfold ji5;rw[hl];simp only;unfold qg1;rw[List.append_assoc,q29 (by omega)];simp only[Option.bind_some];rw[qe3 (by omega)];simp only;rw[if_neg (by omega),if_pos hk];unfold ja1;simp only[List.append_assoc];rw[z62 ha ht q1 q2 q3];simp only[Option.bind_some];by_cases h3:f.kind=3
     ·obtain⟨m1,m2⟩:=o5 h3;rw[if_pos h3,if_pos h3];simp only[List.append_assoc];rw[q29 hb];simp only[Option.bind_some];rw[q29 hc];simp only[Option.bind_some];rw[q29 m2];simp only[Option.map_some];have e1:be (q52 0 f.more.data.toList) 8=f.more.data.toList:=by have:=jh7 f.more.data.toList 0;rw[q05,m1,Nat.zero_mul,Nat.zero_add]at this;exact this
      rw[e1,q36];congr 2;exact Fr.ext' rfl rfl rfl rfl o2.symm o3.symm rfl hl.symm
     ·rw[if_neg h3,if_neg h3];obtain⟨z1,z2,z3⟩:=o4 (by omega);simp only[List.nil_append];congr 2;exact Fr.ext' rfl rfl z1.symm z2.symm o2.symm o3.symm z3.symm hl.symm
theorem jb0:∀(l:List (Nat×Nat)) (p:Nat),(qa5 p l).length≤16 * l.length
 | [],_=>by simp[qa5]
 | r ::t,p=>by
  have h1:=jb0 t r.1
  have h2:=q11 (p - r.2 - 2)
  have h3:=q11 (r.2 - r.1)
  unfold qa5
  simp only[List.length_append,List.length_cons]
  omega
theorem z41 (n:Nat) (f:Fr) (h:n≤3):(qc5 n f).length≤24:=by
 have h1:=q11 f.a;have h2:=q11 f.b;have h3:=q11 f.c;unfold qc5
 match n,h with
 | 0,_=>simp
 | 1,_=>simp;omega
 | 2,_=>simp;omega
 | 3,_=>simp;omega
theorem z43 (s:ByteArray):(qf6 s).length≤8+s.size:=by have:=q11 s.size;unfold qf6;simp only[List.length_append,q05];omega
theorem qu0 {f:Fr} (hm:q31 f=true):(q15 f).length≤17000:=by
 obtain⟨_,_,_,hd,ho⟩:=q55 hm;have ht:=z43 f.data;unfold q15;cases hs:q16 f.kind with
 | some s=>
  have h1:=q11 f.kind;have h2:=z41 s.n f (q77 hs).2.1;have h3:(qm7 s f).length≤8+f.data.size:=by
   unfold qm7
   split
   ·exact ht
   ·split
    ·rw[q05];omega
    ·simp
  simp only[List.length_append];omega
 | none=>
  rw[hs]at ho;simp only at ho ⊢;unfold qa8 at ho;unfold qa9;by_cases h0:f.kind=0
  ·rw[if_pos h0]at ho ⊢;simp only[Bool.and_eq_true,decide_eq_true_eq]at ho;simp only[List.length_replicate];omega
  rw[if_neg h0]at ho ⊢;by_cases h8:f.kind=8
  ·rw[if_pos h8];have h1:=q11 (10+(if f.b=0 then 0 else 4)+(if f.fin then 1 else 0));have h2:=q11 f.a;have h3:=q11 f.b;unfold q38;simp only[List.length_append]
   split
   ·simp only[List.length_nil];rename_i hb;rw[if_pos hb]at h1;omega
   ·rename_i hb;rw[if_neg hb]at h1;omega
  rw[if_neg h8];by_cases h24:f.kind=24
  ·rw[if_pos h24];rw[if_neg (by omega),if_neg h8,if_pos h24]at ho;simp only[Bool.and_eq_true,decide_eq_true_eq]at ho;have h1:=q11 24;have h2:=q11 f.a;have h3:=q11 f.b;unfold z36;simp only[List.length_append,List.length_cons,q05];omega
  rw[if_neg h24];by_cases h2:f.kind=2∨f.kind=3
  ·rw[if_pos h2]at ho;unfold qv4 rngs at ho;simp only[Bool.and_eq_true,decide_eq_true_eq]at ho;have hl:=ho.2.2.2.2;unfold ji5;cases hf:f.list with
   | nil=>simp
   | cons r t=>
    rw[hf]at hl;simp only[List.length_cons]at hl;have h1:=q11 f.kind;have h3:=q11 r.2;have h4:=q11 f.a;have h5:=q11 t.length;have h6:=q11 (r.2 - r.1);have h7:=jb0 t r.1;have h8:=q11 f.b;have h9:=q11 f.c;have h10:=q11 (q52 0 f.more.data.toList);simp only[List.length_append]
    split
    ·simp only[List.length_append];omega
    ·simp only[List.length_nil];omega
  ·rw[if_neg h2,if_neg h8,if_neg h24]at ho;cases ho
theorem qs6 (l:List UInt8):(⟨l.toArray⟩:ByteArray).size=l.length:=rfl
theorem ju1 {ns:List Nat} {n:Nat} (hl:ns.length=n) (hn:n≤3): [ns.getD 0 0,ns.getD 1 0,ns.getD 2 0].take n=ns:=by
 match n,hn,ns,hl with
 | 0,_,[],_=>rfl
 | 1,_,[_],_=>rfl
 | 2,_,[_,_],_=>rfl
 | 3,_,[_,_,_],_=>rfl
theorem jq {k:Nat} {sh:Shp} {s r:List UInt8} {f:Fr} (hn:sh.n≤3) (h:qx k sh s=some (f,r)):f.kind=k∧s=qc5 sh.n f++ (qm7 sh f++ r):=by
 unfold qx at h;obtain⟨⟨ns,t⟩,h1,h2⟩:=Option.bind_eq_some_iff.1 h;obtain⟨h3,rfl,h5⟩:=ja3 _ _ _ _ h1;have hg:=ju1 h3 hn;simp only at h2;unfold qc5 qm7
 split at h2
 ·rename_i ht;obtain⟨⟨d,r2⟩,h6,h7⟩:=Option.map_eq_some_iff.1 h2;simp only[Prod.mk.injEq]at h7;obtain⟨rfl,rfl⟩:=h7;obtain⟨rfl,_⟩:=qb4 h6;simp only;rw[hg,if_pos ht];unfold qf6;rw[qs6];simp
 ·rename_i ht
  split at h2
  ·rename_i hx;obtain⟨⟨d,r2⟩,h6,h7⟩:=Option.map_eq_some_iff.1 h2;simp only[Prod.mk.injEq]at h7;obtain⟨rfl,rfl⟩:=h7;obtain⟨rfl,_⟩:=qq7 h6;simp only;rw[hg,if_neg ht,if_pos hx];simp
  ·rename_i hx;cases h2;simp only;rw[hg,if_neg ht,if_neg hx];simp
theorem zu8 {m:Nat} (h:m < 4611686018427387904):q52 0 (be m 8)=m:=by rw[jj2];have:(256:Nat) ^ 8=18446744073709551616:=(by decide);rw[Nat.zero_mul,Nat.zero_add,this];omega
theorem j40 {s r:List UInt8} {f:Fr} (h:qg1 s=some (f,r)) (hm:q31 f=true):s=q15 f++ r∧jh2 f r:=by
 unfold qg1 at h;obtain⟨⟨k,u⟩,h1,h2⟩:=Option.bind_eq_some_iff.1 h;obtain⟨rfl,hk⟩:=q25 h1;simp only at h2;cases hs:q16 k with
 | some sh=>rw[hs]at h2;simp only at h2;obtain⟨h3,h4,h5⟩:=q77 hs;obtain⟨rfl,rfl⟩:=jq h4 h2;refine⟨?_,fun h0=>absurd h0 h5⟩;unfold q15;rw[hs];simp
 | none=>
  rw[hs]at h2;simp only at h2
  split at h2
  ·rename_i hk0;subst hk0;cases h2;obtain⟨z,hz⟩:∃z,min (qd8 u) 16383=z:=⟨_,rfl⟩;rw[hz];refine⟨?_,fun _=> ?_⟩
   ·unfold q15;rw[qe3 (.inl rfl)];simp only;unfold qa9;rw[if_pos rfl];simp only;rw[List.replicate_succ,zk6];show 0 ::u=0 ::(List.replicate z 0++ u.drop z);congr 1;rw[←qy1 u z (by omega),List.take_append_drop]
   ·simp only;by_cases h6:qd8 u≤16383
    ·right;have:u=List.replicate z 0++ u.drop z:=(by rw[←qy1 u z (by omega),List.take_append_drop]);have h7:=congrArg qd8 this;rw[jh1]at h7;omega
    ·left;omega
  ·rename_i hk0
   split at h2
   ·rename_i hk2;unfold ja1 at h2;obtain⟨⟨⟨a,l⟩,v⟩,h3,h4⟩:=Option.bind_eq_some_iff.1 h2;obtain⟨q,t,rfl,ha,hr,rfl⟩:=jv4 h3;simp only at h4
    split at h4
    ·rename_i hk3;obtain⟨⟨b,v1⟩,h5,h6⟩:=Option.bind_eq_some_iff.1 h4;obtain⟨rfl,hb⟩:=q25 h5;obtain⟨⟨c,v2⟩,h7,h8⟩:=Option.bind_eq_some_iff.1 h6;obtain⟨rfl,hc⟩:=q25 h7;obtain⟨⟨m,v3⟩,h9,h10⟩:=Option.map_eq_some_iff.1 h8;obtain⟨rfl,hmm⟩:=q25 h9;simp only[Prod.mk.injEq]at h10;obtain⟨rfl,rfl⟩:=h10;refine⟨?_,fun h0=>absurd h0 hk0⟩;unfold q15;simp only;rw[hs];simp only;unfold qa9;simp only;rw[if_neg hk0,if_neg (by omega),if_neg (by omega)];unfold ji5;simp only;rw[if_pos hk3,zu8 hmm];simp
    ·rename_i hk3;cases h4;refine⟨?_,fun h0=>absurd h0 hk0⟩;unfold q15;simp only;rw[hs];simp only;unfold qa9;simp only;rw[if_neg hk0,if_neg (by omega),if_neg (by omega)];unfold ji5;simp only;rw[if_neg hk3];simp
   ·rename_i hk2
    split at h2
    ·rename_i hk8;unfold j0 at h2;obtain⟨⟨a,v⟩,h3,h4⟩:=Option.bind_eq_some_iff.1 h2;obtain⟨rfl,ha⟩:=q25 h3;obtain⟨⟨b,v1⟩,h5,h6⟩:=Option.bind_eq_some_iff.1 h4;simp only at h5 h6
     split at h6
     ·cases h6
     ·rename_i hl;obtain⟨⟨d,v2⟩,h7,h8⟩:=Option.map_eq_some_iff.1 h6;obtain⟨rfl,hd⟩:=qb4 h7;simp only[Prod.mk.injEq]at h8;obtain⟨rfl,rfl⟩:=h8;refine⟨?_,fun h0=>absurd h0 (by simp)⟩;unfold q15;simp only;rw[qe3 (by omega)];simp only;unfold qa9;simp only;rw[if_neg (by omega),if_pos trivial];unfold q38 qf6;simp only;rw[qs6];by_cases h4:k / 4 % 2=1
      ·rw[if_pos h4]at h5;obtain⟨⟨b',v3⟩,h9,h10⟩:=Option.bind_eq_some_iff.1 h5;obtain⟨rfl,hb⟩:=q25 h9;simp only at h10
       split at h10
       ·cases h10
       ·rename_i hb0;cases h10;have hk:10+(if b=0 then 0 else 4)+(if decide (k % 2=1)=true then 1 else 0)=k:=by
         rw[if_neg hb0];by_cases h1:k % 2=1
         ·rw[decide_eq_true h1,if_pos rfl];omega
         ·rw[decide_eq_false h1,if_neg (by simp)];omega
        rw[hk,if_neg hb0];simp
      ·rw[if_neg h4]at h5;cases h5;have hk:10+(if(0:Nat)=0 then 0 else 4)+(if decide (k % 2=1)=true then 1 else 0)=k:=by
        rw[if_pos rfl];by_cases h1:k % 2=1
        ·rw[decide_eq_true h1,if_pos rfl];omega
        ·rw[decide_eq_false h1,if_neg (by simp)];omega
       rw[hk,if_pos rfl];simp
    ·rename_i hk8
     split at h2
     ·rename_i hk24;subst hk24;unfold zh9 at h2;obtain⟨⟨a,v⟩,h3,h4⟩:=Option.bind_eq_some_iff.1 h2;obtain⟨rfl,ha⟩:=q25 h3;obtain⟨⟨b,v1⟩,h5,h6⟩:=Option.bind_eq_some_iff.1 h4;obtain⟨rfl,hb⟩:=q25 h5;simp only at h6;cases v1 with
      | nil=>cases h6
      | cons n t=>simp only at h6;obtain⟨⟨d,v2⟩,h7,h8⟩:=Option.bind_eq_some_iff.1 h6;obtain⟨rfl,hd⟩:=qq7 h7;obtain⟨⟨m,v3⟩,h9,h10⟩:=Option.map_eq_some_iff.1 h8;obtain⟨rfl,hm2⟩:=qq7 h9;simp only[Prod.mk.injEq]at h10;obtain⟨rfl,rfl⟩:=h10;refine⟨?_,fun h0=>absurd h0 (by simp)⟩;unfold q15;simp only;rw[qe3 (by omega)];simp only;unfold qa9;simp only;rw[if_neg (by omega),if_neg (by omega),if_pos trivial];unfold z36;simp only;rw[qs6,hd];simp
     ·cases h2
theorem z42 {f:Fr} (h:q31 f=true) (r:List UInt8) (hz:jh2 f r):qm6 (q15 f++ r)=some (f,r):=by unfold qm6;rw[jv5 h r hz];simp[h]
theorem ju {s r:List UInt8} {f:Fr} (h:qm6 s=some (f,r)):q31 f=true∧s=q15 f++ r∧jh2 f r:=by
 unfold qm6 at h;obtain⟨⟨f',r'⟩,h1,h2⟩:=Option.bind_eq_some_iff.1 h;simp only at h2
 split at h2
 ·rename_i hm;cases h2;exact⟨hm,(j40 h1 hm).1,(j40 h1 hm).2⟩
 ·cases h2
theorem jw0 (w:World) (A B:Option Addr) (n m c d:Nat) (l k:List (Nat×Nat)) (hl:Rngs w A n l) (hk:Rngs w B m k) (v:Bool) (hv:decide (l=k)=v):
  Calls Tryz.prog 95 #[.slice A n c,.slice B m d] w fun e w'=>e=.returned (.bool v)∧∃q,w'=w.drewN q:=by
 have hn1:=hl.2.1;have hm1:=hk.2.1;by_cases hnm:n=m
 ·subst hnm;have hpre:∀j,(∀i (h1:i < l.length) (h2:i < k.length),i < j→l[i]=k[i])→∀h1:j < l.length,∀h2:j < k.length,l[j]≠k[j]→v=false:=fun j _ h1 h2 hne=>(by rw[←hv];refine decide_eq_false (fun e=>hne ?_);subst e;rfl);have hfin:(∀i (h1:i < l.length) (h2:i < k.length),i < n→l[i]=k[i])→v=true:=fun h=>by
   rw[←hv];refine decide_eq_true ?_;apply List.ext_getElem
   ·rw[hl.1,hk.1]
   ·intro i h1 h2;exact h i h1 h2 (by have:=hl.1;omega)
  have HPre:=q00 hpre;have HFin:=q00 hfin;have HL:=q00 hl;have HK:=q00 hk;clear hpre hfin hl hk hv;go_enter Tryz.func95,Tryz.ntmps95;go_wp2_with fail;go_loopw [13] (fun iv wr=>∃j:Nat,j≤n∧iv=.int .i64 (j:Int)∧Hid (∀i (h1:i < l.length) (h2:i < k.length),i < j→l[i]=k[i])∧∃q,wr=w.drewN q) (fun iv _=>n - (intOf iv).toNat)
  case atStart=>exact⟨0,by omega,rfl,q00 (fun i h1 h2 h3=>by omega),0,rfl⟩
  case round=>
   obtain⟨j,hj,rfl,hC,q,rfl⟩:=hrel;by_cases h:j < n
   ·obtain⟨g,o,hjl,rfl,hgl,c0,c1⟩:=HL.out.at_ h;obtain⟨g',o',hjk,rfl,hgl',d0,d1⟩:=HK.out.at_ h;have hbad:=HPre.out j hC.out hjl hjk;have hnext:l[j]=k[j]→∀i (h1:i < l.length) (h2:i < k.length),i < j+1→l[i]=k[i]:=fun he i h1 h2 h3=>by
     by_cases e:i=j
     ·subst e;exact he
     ·exact hC.out i h1 h2 (by omega)
    obtain⟨x,hx⟩:∃x,l[j]=x:=⟨_,rfl⟩;obtain⟨y,hy⟩:∃x,k[j]=x:=⟨_,rfl⟩;rw[hx]at c0 c1 hbad hnext;rw[hy]at d0 d1 hbad hnext;obtain⟨x1,x2⟩:=x;obtain⟨y1,y2⟩:=y;simp only at c0 c1 d0 d1;have HBad:=q00 hbad;have HNext:=q00 hnext;clear hx hy hbad hnext hC hjl hjk;by_cases h1:x1=y1
    ·subst h1;by_cases h2:x2=y2
     ·subst h2;have HN:=q00 (HNext.out rfl);clear HBad HNext;go_wp2_with fail;go_quiet (fail);go_wp2_with fail;go_roundw
      case rel=>exact⟨j+1,by omega,by go_num,HN,by first | exact⟨_,rfl⟩ | exact⟨_,World.drewN_drewN _ _ _⟩⟩
      case measure=>simp[intOf];omega
     ·have hvf:=HBad.out (fun e=>h2 (by cases e;rfl));have b1:((x2:Int)==(y2:Int))=false:=(by simp;omega);have b2:(x2==y2)=false:=(by simpa using h2);have HV:=q00 hvf;clear HBad HNext hvf;go_wp2_with fail;go_quiet (fail);go_wp2_with fail;go_ret;exact⟨by rw[HV.out];rfl,by first | exact⟨_,rfl⟩ | exact⟨_,World.drewN_drewN _ _ _⟩⟩
    ·have hvf:=HBad.out (fun e=>h1 (by cases e;rfl));have b1:((x1:Int)==(y1:Int))=false:=(by simp;omega);have b2:(x1==y1)=false:=(by simpa using h1);have HV:=q00 hvf;clear HBad HNext hvf;go_wp2_with fail;go_quiet (fail);go_wp2_with fail;go_ret;exact⟨by rw[HV.out];rfl,by first | exact⟨_,rfl⟩ | exact⟨_,World.drewN_drewN _ _ _⟩⟩
   ·have hjn:j=n:=(by omega);subst hjn;have hvt:=HFin.out hC.out;have HV:=q00 hvt;clear hvt hC;go_wp2_with fail;go_ret;exact⟨by rw[HV.out];rfl,_,rfl⟩
 ·have hvf:v=false:=(by rw[←hv];refine decide_eq_false (fun e=>hnm ?_);rw[←hl.1,←hk.1,e]);have b1:((n:Int) !=(m:Int))=true:=(by simp;omega);have b2:(n !=m)=true:=(by simpa using hnm);have HV:=q00 hvf;clear hv hl hk hvf;go_enter Tryz.func95,Tryz.ntmps95;go_wp2_with fail;go_ret;exact⟨by rw[HV.out];rfl,0,rfl⟩
theorem ql7 (w:World) (A B:Option Addr) (n m c d:Nat) (f g:Fr) (hf:Rngs w A n f.list) (hg:Rngs w B m g.list) (v:Bool) (hv:qc6 f g=v):
  Calls Tryz.prog 55 #[q17 A n c f,q17 B m d g] w fun e w'=>e=.returned (.bool v)∧Mod [] w w':=by
 obtain⟨k1,a1,b1,c1,i1,d1,m1,l1⟩:=f;obtain⟨k2,a2,b2,c2,i2,d2,m2,l2⟩:=g;unfold q17 fcs;simp only at hf hg ⊢;have HV:=q00 hv;have HF:=q00 hf;have HG:=q00 hg;clear hv hf hg;by_cases hk:k1=k2;rotate_left
 ·have hvf:Hid (v=false):=q00 (by rw[←HV.out];exact qf5 (fun e=>hk (congrArg Fr.kind e)));have q1:((k1:Int)==(k2:Int))=false:=(by simp;omega);have q2:(k1==k2)=false:=(by simpa using hk);clear hk HV HF HG;go_enter Tryz.func55,Tryz.ntmps55;go_wp2_with fail;go_ret;exact⟨by rw[hvf.out];rfl,((Mod.refl _ _).alloc _).alloc _⟩
 subst hk;by_cases ha:a1=a2;rotate_left
 ·have hvf:Hid (v=false):=q00 (by rw[←HV.out];exact qf5 (fun e=>ha (congrArg Fr.a e)));have q1:((a1:Int)==(a2:Int))=false:=(by simp;omega);have q2:(a1==a2)=false:=(by simpa using ha);clear ha HV HF HG;go_enter Tryz.func55,Tryz.ntmps55;go_wp2_with fail;go_ret;exact⟨by rw[hvf.out];rfl,((Mod.refl _ _).alloc _).alloc _⟩
 subst ha;by_cases hb:b1=b2;rotate_left
 ·have hvf:Hid (v=false):=q00 (by rw[←HV.out];exact qf5 (fun e=>hb (congrArg Fr.b e)));have q1:((b1:Int)==(b2:Int))=false:=(by simp;omega);have q2:(b1==b2)=false:=(by simpa using hb);clear hb HV HF HG;go_enter Tryz.func55,Tryz.ntmps55;go_wp2_with fail;go_ret;exact⟨by rw[hvf.out];rfl,((Mod.refl _ _).alloc _).alloc _⟩
 subst hb;by_cases hc:c1=c2;rotate_left
 ·have hvf:Hid (v=false):=q00 (by rw[←HV.out];exact qf5 (fun e=>hc (congrArg Fr.c e)));have q1:((c1:Int)==(c2:Int))=false:=(by simp;omega);have q2:(c1==c2)=false:=(by simpa using hc);clear hc HV HF HG;go_enter Tryz.func55,Tryz.ntmps55;go_wp2_with fail;go_ret;exact⟨by rw[hvf.out];rfl,((Mod.refl _ _).alloc _).alloc _⟩
 subst hc;by_cases hi:i1=i2;rotate_left
 ·have hvf:Hid (v=false):=q00 (by rw[←HV.out];exact qf5 (fun e=>hi (congrArg Fr.fin e)));have q1:(i1==i2)=false:=(by simpa using hi);clear hi HV HF HG;go_enter Tryz.func55,Tryz.ntmps55;go_wp2_with fail;go_ret;exact⟨by rw[hvf.out];rfl,((Mod.refl _ _).alloc _).alloc _⟩
 subst hi;by_cases hd:d1=d2;rotate_left
 ·have hvf:Hid (v=false):=q00 (by rw[←HV.out];exact qf5 (fun e=>hd (congrArg Fr.data e)));have q1:=qa3 hd;clear hd HV HF HG;go_enter Tryz.func55,Tryz.ntmps55;go_wp2_with fail;go_ret;exact⟨by rw[hvf.out];rfl,((Mod.refl _ _).alloc _).alloc _⟩
 subst hd;by_cases hm:m1=m2;rotate_left
 ·have hvf:Hid (v=false):=q00 (by rw[←HV.out];exact qf5 (fun e=>hm (congrArg Fr.more e)));have q1:=qa3 hm;clear hm HV HF HG;go_enter Tryz.func55,Tryz.ntmps55;go_wp2_with fail;go_ret;exact⟨by rw[hvf.out];rfl,((Mod.refl _ _).alloc _).alloc _⟩
 subst hm;have hvl:decide (l1=l2)=v:=(by rw[←HV.out];unfold qc6;simp);have HVL:=q00 hvl;have hfA:=q00 (HF.out.new (((Mod.refl [] w).alloc (.cells (fcs A n c ⟨k1,a1,b1,c1,i1,d1,m1,l1⟩) 36)).alloc (.cells (fcs B m d ⟨k1,a1,b1,c1,i1,d1,m1,l2⟩) 36)));have hgA:=q00 (HG.out.new (((Mod.refl [] w).alloc (.cells (fcs A n c ⟨k1,a1,b1,c1,i1,d1,m1,l1⟩) 36)).alloc (.cells (fcs B m d ⟨k1,a1,b1,c1,i1,d1,m1,l2⟩) 36)));clear hvl HV HF HG;go_enter Tryz.func55,Tryz.ntmps55;go_wp2_with fail;refine(jw0 _ A B n m c d l1 l2 hfA.out hgA.out v HVL.out).mono ?_;rintro e w' ⟨rfl,q,rfl⟩;go_wp2_with fail;go_ret;exact⟨by rfl,(((Mod.refl _ _).alloc _).alloc _).drewN _⟩
def qm9 (s:Shp):Value:=.agg #[.int .i64 (s.n:Nat),.bool s.t,.int .i64 (s.x:Nat)]
def sh0:Shp:=⟨0,false,0⟩
def shS (k:Nat):Shp:=(q16 k).getD sh0
theorem j30 {k:Nat} (h:¬(k=1∨k=30∨k=4∨k=5∨k=17∨k=21∨k=16∨k=18∨k=19∨k=20∨k=22∨k=23∨k=25∨k=6∨k=29∨k=28∨k=7∨k=26∨k=27)):q16 k=none:=by unfold q16;repeat rw[if_neg (by omega)]
theorem qb7 (w:World) (k:Nat):Calls Tryz.prog 87 #[.int .u64 k] w fun e w'=>e=.returned (.tuple #[qm9 (shS k),.bool (q16 k).isSome])∧Mod [] w w':=by
 by_cases h:k=1∨k=30∨k=4∨k=5∨k=17∨k=21∨k=16∨k=18∨k=19∨k=20∨k=22∨k=23∨k=25∨k=6∨k=29∨k=28∨k=7∨k=26∨k=27
 ·rcases h with rfl | rfl | rfl | rfl | rfl | rfl | rfl | rfl | rfl | rfl | rfl | rfl | rfl | rfl | rfl | rfl | rfl | rfl | rfl;all_goals
   go_enter Tryz.func87,Tryz.ntmps87
   go_wp2_with fail
   exact bodyPost_ret (q02 rfl _ _ w.heap.size 109 _ _ rfl (Blk.new _ _ _) Tryz.underlying109 rfl (by kernel_rfl)) rfl ⟨rfl,(Mod.refl _ _).alloc _⟩
 ·have hn:=j30 h;have HN:=q00 hn;clear hn;have b1:((k:Int)==1)=false:=(by simp;omega);have b30:((k:Int)==30)=false:=(by simp;omega);have b4:((k:Int)==4)=false:=(by simp;omega);have b5:((k:Int)==5)=false:=(by simp;omega);have b17:((k:Int)==17)=false:=(by simp;omega);have b21:((k:Int)==21)=false:=(by simp;omega);have b16:((k:Int)==16)=false:=(by simp;omega);have b18:((k:Int)==18)=false:=(by simp;omega);have b19:((k:Int)==19)=false:=(by simp;omega);have b20:((k:Int)==20)=false:=(by simp;omega);have b22:((k:Int)==22)=false:=(by simp;omega);have b23:((k:Int)==23)=false:=(by simp;omega);have b25:((k:Int)==25)=false:=(by simp;omega);have b6:((k:Int)==6)=false:=(by simp;omega);have b29:((k:Int)==29)=false:=(by simp;omega);have b28:((k:Int)==28)=false:=(by simp;omega);have b7:((k:Int)==7)=false:=(by simp;omega);have b26:((k:Int)==26)=false:=(by simp;omega);have b27:((k:Int)==27)=false:=(by simp;omega);clear h;go_enter Tryz.func87,Tryz.ntmps87;go_wp2_with fail;refine bodyPost_ret (q02 rfl _ _ w.heap.size 109 _ _ rfl (Blk.new _ _ _) Tryz.underlying109 rfl (by kernel_rfl)) rfl ⟨?_,(Mod.refl _ _).alloc _⟩;unfold shS;rw[HN.out];rfl
def qf1 (j n:Nat) (f:Fr):Fr:= { f with a:=if 0 < j∧0 < n then 0 else f.a,b:=if 1 < j∧1 < n then 0 else f.b,c:=if 2 < j∧2 < n then 0 else f.c }
def j47 (s:Shp) (f:Fr):Fr:= { qf1 3 s.n f with kind:=0,data:=if s.t=true∨0 < s.x then⟨#[]⟩else f.data }
theorem qq1 (s:Shp) (f:Fr):qc6 (j47 s f) fr0=qd s f:=by
 rw[Bool.eq_iff_iff,fsame_iff];constructor
 ·intro h;have h1:=congrArg Fr.a h;have h2:=congrArg Fr.b h;have h3:=congrArg Fr.c h;have h4:=congrArg Fr.fin h;have h5:=congrArg Fr.data h;have h6:=congrArg Fr.more h;have h7:=congrArg Fr.list h;simp only[j47,qf1,fr0]at h1 h2 h3 h4 h5 h6 h7;unfold qd;simp only[Bool.and_eq_true,Bool.or_eq_true,decide_eq_true_eq,Bool.not_eq_true'];refine⟨⟨⟨⟨⟨⟨?_,?_⟩,?_⟩,h4⟩,?_⟩,by rw[h6];rfl⟩,h7⟩
  ·split at h1 <;> omega
  ·split at h2 <;> omega
  ·split at h3 <;> omega
  ·split at h5
   ·rename_i h;rcases h with h | h <;> simp[h]
   ·right;rw[h5];rfl
 ·intro h;obtain⟨h1,h2,h3,h4,h5,h6,h7⟩:=qz h;refine Fr.ext' rfl ?_ ?_ ?_ h4 ?_ (qn h6) h7
  ·simp only[j47,qf1,fr0];split <;> omega
  ·simp only[j47,qf1,fr0];split <;> omega
  ·simp only[j47,qf1,fr0];split <;> omega
  ·simp only[j47,fr0]
   split
   ·rfl
   ·rename_i hn;rcases h5 with h | h | h
    ·exact absurd (.inl h) hn
    ·exact absurd (.inr h) hn
    ·exact qn h
theorem qt5 (w:World) (s:Shp) (hs:s.n≤3) (hx:s.x≤8) (A:Option Addr) (m c:Nat) (f:Fr):
  Calls Tryz.prog 89 #[qm9 s,q17 A m c f] w fun e w'=>e=.returned (q17 A m c (j47 s f))∧Mod [] w w':=by
 obtain⟨n,t,x⟩:=s;simp only at hs hx;have hfb:Blk ((w.alloc (.cells #[.int .i64 (n:Nat),.bool t,.int .i64 (x:Nat)] 109)).alloc (.cells (fcs A m c f) 36)) (w.heap.size+1) 36 (fcs A m c f):=by have:=Blk.new (w.alloc (.cells #[.int .i64 (n:Nat),.bool t,.int .i64 (x:Nat)] 109)) 36 (fcs A m c f);rw[World.size_alloc]at this;exact this
 have hsb:Blk ((w.alloc (.cells #[.int .i64 (n:Nat),.bool t,.int .i64 (x:Nat)] 109)).alloc (.cells (fcs A m c f) 36)) w.heap.size 109 #[.int .i64 (n:Nat),.bool t,.int .i64 (x:Nat)]:=(Blk.new _ _ _).alloc _;have hm:Mod [] w ((w.alloc (.cells #[.int .i64 (n:Nat),.bool t,.int .i64 (x:Nat)] 109)).alloc (.cells (fcs A m c f) 36)):=((Mod.refl _ _).alloc _).alloc _;have HFB:=q00 hfb;have HSB:=q00 hsb;have HM:=q00 hm;clear hfb hsb hm;unfold qm9 q17 fcs at *;go_enter Tryz.func89,Tryz.ntmps89;go_wp2_with fail;have hrb:Blk (((w.alloc (.cells #[.int .i64 (n:Nat),.bool t,.int .i64 (x:Nat)] 109)).alloc (.cells (fcs A m c f) 36)).alloc (.cells (fcs none 0 0 fr0) 36)) (w.heap.size+1+1) 36 (fcs none 0 0 fr0):=by have:=Blk.new ((w.alloc (.cells #[.int .i64 (n:Nat),.bool t,.int .i64 (x:Nat)] 109)).alloc (.cells (fcs A m c f) 36)) 36 (fcs none 0 0 fr0);rw[World.size_alloc,World.size_alloc]at this;exact this
 have hpb:Blk ((((w.alloc (.cells #[.int .i64 (n:Nat),.bool t,.int .i64 (x:Nat)] 109)).alloc (.cells (fcs A m c f) 36)).alloc (.cells (fcs none 0 0 fr0) 36)).alloc (.cells #[.pointer (some ⟨w.heap.size+1,1,none⟩),.pointer (some ⟨w.heap.size+1,2,none⟩),.pointer (some ⟨w.heap.size+1,3,none⟩)] 150)) (w.heap.size+1+1+1) 150 #[.pointer (some ⟨w.heap.size+1,1,none⟩),.pointer (some ⟨w.heap.size+1,2,none⟩),.pointer (some ⟨w.heap.size+1,3,none⟩)]:=by have:=Blk.new (((w.alloc (.cells #[.int .i64 (n:Nat),.bool t,.int .i64 (x:Nat)] 109)).alloc (.cells (fcs A m c f) 36)).alloc (.cells (fcs none 0 0 fr0) 36)) 150 #[.pointer (some ⟨w.heap.size+1,1,none⟩),.pointer (some ⟨w.heap.size+1,2,none⟩),.pointer (some ⟨w.heap.size+1,3,none⟩)];rw[World.size_alloc,World.size_alloc,World.size_alloc]at this;exact this
 have hrb4:=hrb.alloc (.cells #[.pointer (some ⟨w.heap.size+1,1,none⟩),.pointer (some ⟨w.heap.size+1,2,none⟩),.pointer (some ⟨w.heap.size+1,3,none⟩)] 150);have hfb4:=(HFB.out.alloc (.cells (fcs none 0 0 fr0) 36)).alloc (.cells #[.pointer (some ⟨w.heap.size+1,1,none⟩),.pointer (some ⟨w.heap.size+1,2,none⟩),.pointer (some ⟨w.heap.size+1,3,none⟩)] 150);have hsb4:=(HSB.out.alloc (.cells (fcs none 0 0 fr0) 36)).alloc (.cells #[.pointer (some ⟨w.heap.size+1,1,none⟩),.pointer (some ⟨w.heap.size+1,2,none⟩),.pointer (some ⟨w.heap.size+1,3,none⟩)] 150);have hm4:=(HM.out.alloc (.cells (fcs none 0 0 fr0) 36)).alloc (.cells #[.pointer (some ⟨w.heap.size+1,1,none⟩),.pointer (some ⟨w.heap.size+1,2,none⟩),.pointer (some ⟨w.heap.size+1,3,none⟩)] 150);obtain⟨w4,hw4⟩:∃w4,(((w.alloc (.cells #[.int .i64 (n:Nat),.bool t,.int .i64 (x:Nat)] 109)).alloc (.cells (fcs A m c f) 36)).alloc (.cells (fcs none 0 0 fr0) 36)).alloc (.cells #[.pointer (some ⟨w.heap.size+1,1,none⟩),.pointer (some ⟨w.heap.size+1,2,none⟩),.pointer (some ⟨w.heap.size+1,3,none⟩)] 150)=w4:=⟨_,rfl⟩;unfold fcs at hw4 hrb4 hpb hfb4 hsb4 hm4;change Code.wp _ _ _ _ ((((w.alloc (.cells #[.int .i64 (n:Nat),.bool t,.int .i64 (x:Nat)] 109)).alloc (.cells #[.int .u64 (f.kind:Nat),.int .u64 (f.a:Nat),.int .u64 (f.b:Nat),.int .u64 (f.c:Nat),.bool f.fin,.string f.data,.string f.more,.slice A m c] 36)).alloc (.cells #[.int .u64 (fr0.kind:Nat),.int .u64 (fr0.a:Nat),.int .u64 (fr0.b:Nat),.int .u64 (fr0.c:Nat),.bool fr0.fin,.string fr0.data,.string fr0.more,.slice none 0 0] 36)).alloc (.cells #[.pointer (some ⟨w.heap.size+1,1,none⟩),.pointer (some ⟨w.heap.size+1,2,none⟩),.pointer (some ⟨w.heap.size+1,3,none⟩)] 150));rw[hw4]at hrb4 hpb hfb4 hsb4 hm4 ⊢;obtain⟨sb,hse⟩:∃sb,w.heap.size=sb:=⟨_,rfl⟩;have hsw:w.heap.size≤sb:=(by omega);rw[hse]at hrb4 hpb hfb4 hsb4 ⊢;have HRB:=q00 hrb4;have HPB:=q00 hpb;have HFB4:=q00 hfb4;have HSB4:=q00 hsb4;have HM4:=q00 hm4;have HSw:=q00 hsw;clear HFB HSB HM hrb hrb4 hpb hfb4 hsb4 hm4 hw4 hse hsw;go_loopw [12] (fun iv wr=>∃j:Nat,j≤3∧iv=.int .i64 (j:Int)∧Blk wr (sb+1) 36 (fcs A m c (qf1 j n f))∧Mod [sb+1] w4 wr) (fun iv _=>3 - (intOf iv).toNat)
 case atStart=>exact⟨0,by omega,rfl,HFB4.out,Mod.refl _ _⟩
 case round=>
  clear HFB4;obtain⟨j,hj,rfl,hfb,hm⟩:=hrel;have hsb:=hm.blk HSB4.out (by simp);have hpb:=hm.blk HPB.out (by simp;omega);have s0:wr.cell? ⟨sb,0,none⟩=some (.int .i64 (n:Nat)):=hsb.cell 0;have hsl:=hsb.lt;have hpl:=hpb.lt;have hfl:=hfb.lt;by_cases h:j < 3
  ·have hfz:=hfb.frozen (j+1);by_cases hn:j < n
   ·have hset:=hfb.set_ (j+1) (.int .u64 0);have hlt:decide ((j:Int) < n)=true:=decide_eq_true (by omega);have j3:j=0∨j=1∨j=2:=(by omega);rcases j3 with rfl | rfl | rfl
    ·have p0:wr.cell? ⟨sb+1+1+1,0,none⟩=some (.pointer (some ⟨sb+1,1,none⟩)):=hpb.cell 0;have c0:wr.cell? ⟨sb+1,1,none⟩=some (.int .u64 ((qf1 0 n f).a:Nat)):=hfb.cell 1;have hfin:(fcs A m c (qf1 0 n f)).setIfInBounds 1 (.int .u64 0)=fcs A m c (qf1 1 n f):=by
      (have e:qf1 1 n f= { qf1 0 n f with a:=0 } :=by unfold qf1;refine Fr.ext' rfl ?_ ?_ ?_ rfl rfl rfl rfl <;> (simp only;repeat' split) <;> first | rfl | omega);rw[e];simp[fcs]
     rw[hfin]at hset;have HS:=q00 hset;clear hset hfin hsb hpb hfb;go_wp2_with fail;go_roundw
     case rel=>exact⟨1,by omega,by go_num,HS.out,hm.setCell (.inl (by simp)) _⟩
     case measure=>simp[intOf]
    ·have p0:wr.cell? ⟨sb+1+1+1,1,none⟩=some (.pointer (some ⟨sb+1,2,none⟩)):=hpb.cell 1;have c0:wr.cell? ⟨sb+1,2,none⟩=some (.int .u64 ((qf1 1 n f).b:Nat)):=hfb.cell 2;have hfin:(fcs A m c (qf1 1 n f)).setIfInBounds 2 (.int .u64 0)=fcs A m c (qf1 2 n f):=by
      (have e:qf1 2 n f= { qf1 1 n f with b:=0 } :=by unfold qf1;refine Fr.ext' rfl ?_ ?_ ?_ rfl rfl rfl rfl <;> (simp only;repeat' split) <;> first | rfl | omega);rw[e];simp[fcs]
     rw[hfin]at hset;have HS:=q00 hset;clear hset hfin hsb hpb hfb;go_wp2_with fail;go_roundw
     case rel=>exact⟨2,by omega,by go_num,HS.out,hm.setCell (.inl (by simp)) _⟩
     case measure=>simp[intOf]
    ·have p0:wr.cell? ⟨sb+1+1+1,2,none⟩=some (.pointer (some ⟨sb+1,3,none⟩)):=hpb.cell 2;have c0:wr.cell? ⟨sb+1,3,none⟩=some (.int .u64 ((qf1 2 n f).c:Nat)):=hfb.cell 3;have hfin:(fcs A m c (qf1 2 n f)).setIfInBounds 3 (.int .u64 0)=fcs A m c (qf1 3 n f):=by
      (have e:qf1 3 n f= { qf1 2 n f with c:=0 } :=by unfold qf1;refine Fr.ext' rfl ?_ ?_ ?_ rfl rfl rfl rfl <;> (simp only;repeat' split) <;> first | rfl | omega);rw[e];simp[fcs]
     rw[hfin]at hset;have HS:=q00 hset;clear hset hfin hsb hpb hfb;go_wp2_with fail;go_roundw
     case rel=>exact⟨3,by omega,by go_num,HS.out,hm.setCell (.inl (by simp)) _⟩
     case measure=>simp[intOf]
   ·have hlt:decide ((j:Int) < n)=false:=decide_eq_false (by omega);(have hfin:qf1 (j+1) n f=qf1 j n f:=by unfold qf1;refine Fr.ext' rfl ?_ ?_ ?_ rfl rfl rfl rfl <;> (simp only;repeat' split) <;> first | rfl | omega);rw[←hfin]at hfb;have j3:j=0∨j=1∨j=2:=(by omega);rcases j3 with rfl | rfl | rfl
    ·have p0:wr.cell? ⟨sb+1+1+1,0,none⟩=some (.pointer (some ⟨sb+1,1,none⟩)):=hpb.cell 0;have HS:=q00 hfb;clear hfin hsb hpb hfb;go_wp2_with fail;go_roundw
     case rel=>exact⟨1,by omega,by go_num,HS.out,hm⟩
     case measure=>simp[intOf]
    ·have p0:wr.cell? ⟨sb+1+1+1,1,none⟩=some (.pointer (some ⟨sb+1,2,none⟩)):=hpb.cell 1;have HS:=q00 hfb;clear hfin hsb hpb hfb;go_wp2_with fail;go_roundw
     case rel=>exact⟨2,by omega,by go_num,HS.out,hm⟩
     case measure=>simp[intOf]
    ·have p0:wr.cell? ⟨sb+1+1+1,2,none⟩=some (.pointer (some ⟨sb+1,3,none⟩)):=hpb.cell 2;have HS:=q00 hfb;clear hfin hsb hpb hfb;go_wp2_with fail;go_roundw
     case rel=>exact⟨3,by omega,by go_num,HS.out,hm⟩
     case measure=>simp[intOf]
  ·have hj3:j=3:=(by omega);subst hj3;have hrr:=hm.blk HRB.out (by simp);have HRR:=q00 hrr;have s1:wr.cell? ⟨sb,1,none⟩=some (.bool t):=hsb.cell 1;have s2:wr.cell? ⟨sb,2,none⟩=some (.int .i64 (x:Nat)):=hsb.cell 2;have hrl:=hrr.lt;have hclr:∀D:ByteArray,D=(if t=true∨0 < x then⟨#[]⟩else f.data)→j47 ⟨n,t,x⟩ f= { qf1 3 n f with kind:=0,data:=D } :=fun D hD=>(by rw[hD];rfl);have hdf:(qf1 3 n f).data=f.data:=rfl;have HClr:=q00 hclr;obtain⟨F,hF⟩:∃F,qf1 3 n f=F:=⟨_,rfl⟩;rw[hF]at HClr hfb hdf;have HDf:=q00 hdf;have r0:wr.frozen? ⟨sb+1+1,0,none⟩=false:=HRR.out.frozen 0;have r1:wr.frozen? ⟨sb+1+1,1,none⟩=false:=HRR.out.frozen 1;have r2:wr.frozen? ⟨sb+1+1,2,none⟩=false:=HRR.out.frozen 2;have r3:wr.frozen? ⟨sb+1+1,3,none⟩=false:=HRR.out.frozen 3;have r4:wr.frozen? ⟨sb+1+1,4,none⟩=false:=HRR.out.frozen 4;have r5:wr.frozen? ⟨sb+1+1,5,none⟩=false:=HRR.out.frozen 5;have r6:wr.frozen? ⟨sb+1+1,6,none⟩=false:=HRR.out.frozen 6;have r7:wr.frozen? ⟨sb+1+1,7,none⟩=false:=HRR.out.frozen 7;have z0:wr.cell? ⟨sb+1+1,0,none⟩=some (.int .u64 0):=HRR.out.cell 0;have z1:wr.cell? ⟨sb+1+1,1,none⟩=some (.int .u64 0):=HRR.out.cell 1;have z2:wr.cell? ⟨sb+1+1,2,none⟩=some (.int .u64 0):=HRR.out.cell 2;have z3:wr.cell? ⟨sb+1+1,3,none⟩=some (.int .u64 0):=HRR.out.cell 3;have z4:wr.cell? ⟨sb+1+1,4,none⟩=some (.bool false):=HRR.out.cell 4;have z5:wr.cell? ⟨sb+1+1,5,none⟩=some (.string ⟨#[]⟩):=HRR.out.cell 5;have z6:wr.cell? ⟨sb+1+1,6,none⟩=some (.string ⟨#[]⟩):=HRR.out.cell 6;have z7:wr.cell? ⟨sb+1+1,7,none⟩=some (.slice none 0 0):=HRR.out.cell 7;have c0:wr.cell? ⟨sb+1,0,none⟩=some (.int .u64 (F.kind:Nat)):=hfb.cell 0;have c1:wr.cell? ⟨sb+1,1,none⟩=some (.int .u64 (F.a:Nat)):=hfb.cell 1;have c2:wr.cell? ⟨sb+1,2,none⟩=some (.int .u64 (F.b:Nat)):=hfb.cell 2;have c3:wr.cell? ⟨sb+1,3,none⟩=some (.int .u64 (F.c:Nat)):=hfb.cell 3;have c4:wr.cell? ⟨sb+1,4,none⟩=some (.bool F.fin):=hfb.cell 4;have c5:wr.cell? ⟨sb+1,5,none⟩=some (.string F.data):=hfb.cell 5;have c6:wr.cell? ⟨sb+1,6,none⟩=some (.string F.more):=hfb.cell 6;have c7:wr.cell? ⟨sb+1,7,none⟩=some (.slice A m c):=hfb.cell 7;have ff5:=hfb.frozen 5;have ff0:=hfb.frozen 0;have hb1:=hrr;have HFb:=q00 hfb;clear hrr hsb hpb hfb hclr hF hdf s0 h;by_cases htx:t=true∨0 < x
   ·have hcl:=HClr.out ⟨#[]⟩ (by rw[if_pos htx]);have HCl:=q00 hcl;have hb2:=((hb1.far (p:=⟨sb+1,5,none⟩) (by show sb+1+1≠sb+1;omega) (.string ⟨#[]⟩)).far (p:=⟨sb+1,0,none⟩) (by show sb+1+1≠sb+1;omega) (.int .u64 0)).sets (fun i=>(fcs A m c { F with kind:=0,data:=⟨#[]⟩ }).getD i undef) (List.range 8);rw[j59 _ _ 8 rfl rfl]at hb2;have hmf:=((hm.setCell (p:=⟨sb+1,5,none⟩) (.inl (by simp)) (.string ⟨#[]⟩)).setCell (p:=⟨sb+1,0,none⟩) (.inl (by simp)) (.int .u64 0));have hmf2:=((HM4.out.trans hmf (fun y hy=>by simp at hy;have:=HSw.out;right;omega)).sets (g:=sb+1+1) (.inr (by have:=HSw.out;omega)) (fun i=>(fcs A m c { F with kind:=0,data:=⟨#[]⟩ }).getD i undef) (List.range 8));have HB2:=q00 hb2;have HMF:=q00 hmf2;clear hcl hb2 hmf hmf2 HClr hb1 hm;by_cases ht:t=true
    ·rw[ht]at s1;have HT:=q00 ht;clear htx ht;go_wp2_with fail;refine bodyPost_ret (results_cell_row rfl _ _ (sb+1+1) 36 (fcs A m c { F with kind:=0,data:=⟨#[]⟩ }) (0,0) _ rfl ?_ Tryz.underlying36 rfl (by kernel_rfl)) rfl ?_
     ·exact HB2.out
     refine⟨?_,?_⟩
     ·rw[HCl.out];rfl
     exact HMF.out
    ·have ht2:t=false:=(by simpa using ht);rw[ht2]at s1;have HT:=q00 ht2;have hx1:0 < x:=(by rcases htx with h | h;exact absurd h ht;exact h);have hx0:decide ((0:Int) < x)=true:=decide_eq_true (by omega);have hx2:decide (0 < x)=true:=decide_eq_true hx1;clear htx ht ht2;go_wp2_with fail;refine bodyPost_ret (results_cell_row rfl _ _ (sb+1+1) 36 (fcs A m c { F with kind:=0,data:=⟨#[]⟩ }) (0,0) _ rfl ?_ Tryz.underlying36 rfl (by kernel_rfl)) rfl ?_
     ·exact HB2.out
     refine⟨?_,?_⟩
     ·rw[HCl.out];rfl
     exact HMF.out
   ·have hcl:=HClr.out f.data (by rw[if_neg htx]);rw[←HDf.out]at hcl;have HCl:=q00 hcl;have hb2:=(hb1.far (p:=⟨sb+1,0,none⟩) (by show sb+1+1≠sb+1;omega) (.int .u64 0)).sets (fun i=>(fcs A m c { F with kind:=0,data:=F.data }).getD i undef) (List.range 8);rw[j59 _ _ 8 rfl rfl]at hb2;have hmf:=hm.setCell (p:=⟨sb+1,0,none⟩) (.inl (by simp)) (.int .u64 0);have hmf2:=((HM4.out.trans hmf (fun y hy=>by simp at hy;have:=HSw.out;right;omega)).sets (g:=sb+1+1) (.inr (by have:=HSw.out;omega)) (fun i=>(fcs A m c { F with kind:=0,data:=F.data }).getD i undef) (List.range 8));have HB2:=q00 hb2;have HMF:=q00 hmf2;have ht:t=false:=by
     cases ht:t
     ·rfl
     ·exact absurd (.inl ht) htx
    have hx1:¬0 < x:=fun h=>htx (.inr h);have hx0:decide ((0:Int) < x)=false:=decide_eq_false (by omega);have hx2:decide (0 < x)=false:=decide_eq_false hx1;rw[ht]at s1;have HT:=q00 ht;clear hcl hb2 hmf hmf2 HClr hb1 hm htx ht;go_wp2_with fail;refine bodyPost_ret (results_cell_row rfl _ _ (sb+1+1) 36 (fcs A m c { F with kind:=0,data:=F.data }) (0,0) _ rfl ?_ Tryz.underlying36 rfl (by kernel_rfl)) rfl ?_
    ·exact HB2.out
    refine⟨?_,?_⟩
    ·rw[HCl.out];rfl
    exact HMF.out
theorem ja0 (w:World) (Y:ByteArray) (hY:Y.size≤8):
  Calls Tryz.prog 163 #[.string Y] w fun e w'=>e=.returned (.int .u64 (q52 0 Y.data.toList:Nat))∧Mod [] w w':=by
 obtain⟨D,hD⟩:∃D,Y.data.toList=D:=⟨_,rfl⟩;have hDl:D.length=Y.size:=(by rw[←hD];exact Array.length_toList);have hcv:=Lib.run_convert_string_bytes (P:=Tryz.prog) w 9 100 5 Y Tryz.underlying9 Tryz.underlying100 Tryz.underlying5;obtain⟨m,hm⟩:∃m,Y.size=m:=⟨_,rfl⟩;obtain⟨cap,hcap⟩:∃cap,grownCap w Y.size 0 5=cap:=⟨_,rfl⟩;rw[hcap,hm]at hcv;have hcell:∀j (h:j < D.length),(Lib.bytesWorld w 5 Y).cell? ⟨w.heap.size,j,none⟩=some (.int .u8 (D[j].toNat:Int)):=fun j h=>(by rw[Lib.bytesWorld_cell w _ _ _ (by omega),hD];simp[h]);have hmod:Mod [] w (Lib.bytesWorld w 5 Y):=⟨rfl,rfl,rfl,by rw[Lib.bytesWorld_size];omega,fun j hj _=>Lib.bytesWorld_at_old w _ _ j hj⟩;have hszb:=Lib.bytesWorld_size w 5 Y;obtain⟨wb,hwb⟩:∃wb,Lib.bytesWorld w 5 Y=wb:=⟨_,rfl⟩;rw[hwb]at hcv hcell hmod hszb;rw[hm]at hDl hY;have HCell:=q00 hcell;have HDl:=q00 hDl;rw[hD];clear hm hD hcap hwb hcell hDl;go_enter Tryz.func163,Tryz.ntmps163;go_wp2_with fail;go_loopw [3,9] (fun n i wr=>∃j:Nat,j≤m∧i=.int .i64 (j:Int)∧n=.int .u64 (q52 0 (D.take j):Nat)∧wr=wb) (fun _ i _=>m - (intOf i).toNat)
 case atStart=>exact⟨0,by omega,rfl,rfl,by trivial⟩
 case round=>
  obtain⟨j,hj,rfl,rfl,rfl⟩:=hrel;by_cases h:j < m
  ·have hjl:j < D.length:=(by rw[HDl.out];exact h);have c0:=HCell.out j hjl;obtain⟨d,hd⟩:∃d,D[j]'hjl=d:=⟨_,rfl⟩;rw[hd]at c0;have hnext:q52 0 (D.take (j+1))=q52 0 (D.take j) * 256+d.toNat:=(by rw[←List.take_append_getElem hjl,hd];simp[q52]);have hbound:q52 0 (D.take j) < 256 ^ j:=by have h1:=qz8 (D.take j);have h2:(D.take j).length=j:=(by rw[List.length_take];omega);rw[h2]at h1;exact h1
   have hp:(256:Nat) ^ j≤256 ^ 7:=Nat.pow_le_pow_right (by omega) (by omega);obtain⟨N,hN⟩:∃N,q52 0 (D.take j)=N:=⟨_,rfl⟩;rw[hN]at hnext hbound ⊢;have hNb:N < 72057594037927936:=by have:(256:Nat) ^ 7=72057594037927936:=rfl;omega
   have hd256:=d.toNat_lt;have hor:bits .or .u64 ((N:Int) * 256) (d.toNat:Int)=(N:Int) * 256+d.toNat:=by have e:=bits_or_u64_nat (N * 256) d.toNat (by omega) (by omega);have e2:=Nat.shiftLeft_add_eq_or_of_lt (b:=d.toNat) (i:=8) (by omega) N;rw[Nat.shiftLeft_eq,show 2 ^ 8=256 from rfl]at e2;rw[←e2]at e;simpa using e
   have HNext:=q00 hnext;clear hnext hbound hp hN hd;go_wp2_with fail;go_roundw
   case rel=>exact⟨j+1,by omega,by go_num,by rw[HNext.out];go_num,by trivial⟩
   case measure=>simp[intOf];omega
  ·have hjm:j=m:=(by omega);subst hjm;rw[List.take_of_length_le (by rw[HDl.out];exact Nat.le_refl _)];obtain⟨N,hN⟩:∃N,q52 0 D=N:=⟨_,rfl⟩;rw[hN];have HN:=q00 hN;clear hN;go_wp2_with fail;go_ret;exact⟨by rw[HN.out];rfl,hmod⟩
def q68 (n j:Nat):Array Value:=((List.range 8).map fun m=>if m < j then Value.int .u8 ((n / 256 ^ (7 - m) % 256:Nat):Int)else .int .u8 0).toArray
theorem qm8 (n j:Nat):(q68 n j).size=8:=by simp[q68]
theorem jp (n:Nat):q68 n 0=Array.replicate 8 (.int .u8 0):=by
 apply Array.ext
 ·simp[q68]
 ·intro i h1 h2;simp[q68]
theorem jv1 (n j:Nat):(q68 n j).setIfInBounds j (.int .u8 ((n / 256 ^ (7 - j) % 256:Nat):Int))=q68 n (j+1):=by
 apply Array.ext
 ·simp[q68]
 ·intro i h1 h2;simp only[Array.size_setIfInBounds,qm8]at h1;rw[Array.getElem_setIfInBounds];by_cases e:j=i
  ·rw[if_pos e];simp only[q68,List.getElem_toArray,List.getElem_map,List.getElem_range];rw[if_pos (by omega),e]
  ·rw[if_neg e];simp only[q68,List.getElem_toArray,List.getElem_map,List.getElem_range];by_cases h3:i < j
   ·rw[if_pos h3,if_pos (by omega)]
   ·rw[if_neg h3,if_neg (by omega)]
  ·simpa [qm8] using h1
theorem ju9 (n:Nat):q68 n 8=((be n 8).map bv).toArray:=by
 apply Array.ext
 ·simp[q68,q32]
 ·intro i h1 h2;rw[qm8]at h1;simp only[q68,List.getElem_toArray,List.getElem_map,List.getElem_range];rw[if_pos (by omega)];have:=zb8 n 8 i h1;rw[List.getElem?_eq_getElem (by rw[q32];exact h1)]at this;rw[Option.some.inj this];simp[bv,UInt8.toNat_ofNat']
theorem mk8:madeCells #[Value.int .u8 0] 8=Array.replicate 8 (.int .u8 0):=by apply Array.ext';rw[toList_madeCells_one];simp
theorem jm8 (w:World) (n:Nat) (hn:n≤18446744073709551615):
  Calls Tryz.prog 174 #[.int .u64 n] w fun e w'=>e=.returned (str (be n 8))∧Mod [] w w':=by
 have hmk:=fun w=>(Go.run_make_row' (P:=Tryz.prog) 100 5 (.int .u8 0) 1 Tryz.underlying100 qx8 rfl .i64 .i64 8 (by omega) (by omega) w).trans (by rw[mk8])
 push_cast at hmk
 have hb0:Blk (w.alloc (.cells (Array.replicate 8 (.int .u8 0)) 5)) w.heap.size 5 (q68 n 0):=(by rw[jp];exact Blk.new w _ _);have hm0:Mod [] w (w.alloc (.cells (Array.replicate 8 (.int .u8 0)) 5)):=(Mod.refl _ _).alloc _;have HB0:=q00 hb0;have HM0:=q00 hm0;clear hb0 hm0;go_enter Tryz.func174,Tryz.ntmps174;go_wp2_with fail;go_loopw [8] (fun i wr=>∃j:Nat,j≤8∧i=.int .i64 (j:Int)∧Blk wr w.heap.size 5 (q68 n j)∧Mod [] w wr) (fun i _=>8 - (intOf i).toNat)
 case atStart=>exact⟨0,by omega,rfl,HB0.out,HM0.out⟩
 case round=>
  clear HB0 HM0;obtain⟨j,hj,rfl,hb,hm⟩:=hrel;have hlt:=hb.lt;have hfz:=hb.frozen j;by_cases h:j < 8
  ·have hc:(q68 n j)[j]? =some ((q68 n j)[j]'(by rw[qm8];omega)):=Array.getElem?_eq_getElem _;have c0:∃v,wr.cell? ⟨w.heap.size,j,none⟩=some v:=⟨_,(hb.cell j).trans hc⟩;obtain⟨v0,c0⟩:=c0;have hset:=hb.set_ j (.int .u8 ((n / 256 ^ (7 - j) % 256:Nat):Int));rw[jv1 n j]at hset;have j8:j=0∨j=1∨j=2∨j=3∨j=4∨j=5∨j=6∨j=7:=(by omega);have HSet:=q00 hset;clear hset hc hb;rcases j8 with rfl | rfl | rfl | rfl | rfl | rfl | rfl | rfl
   ·have hs:Blk (wr.setCell ⟨w.heap.size,0,none⟩ (.int .u8 ((n:Int) / 72057594037927936))) w.heap.size 5 (q68 n 1):=by have h1:=HSet.out;have h2:(256:Nat) ^ (7 - 0)=72057594037927936:=rfl;have h3:((n / 256 ^ (7 - 0) % 256:Nat):Int)=(n:Int) / 72057594037927936:=(by rw[h2];omega);rw[h3]at h1;exact h1
    have HS:=q00 hs;clear hs;go_wp2_with fail;go_roundw
    case rel=>exact⟨1,by omega,by go_num,HS.out,hm.setCell (.inr (Nat.le_refl _)) _⟩
    case measure=>simp[intOf]
   ·have hs:Blk (wr.setCell ⟨w.heap.size,1,none⟩ (.int .u8 ((n:Int) / 281474976710656 % 256))) w.heap.size 5 (q68 n 2):=by have h1:=HSet.out;have h2:(256:Nat) ^ (7 - 1)=281474976710656:=rfl;have h3:((n / 256 ^ (7 - 1) % 256:Nat):Int)=(n:Int) / 281474976710656 % 256:=(by rw[h2];omega);rw[h3]at h1;exact h1
    have HS:=q00 hs;clear hs;go_wp2_with fail;go_roundw
    case rel=>exact⟨2,by omega,by go_num,HS.out,hm.setCell (.inr (Nat.le_refl _)) _⟩
    case measure=>simp[intOf]
   ·have hs:Blk (wr.setCell ⟨w.heap.size,2,none⟩ (.int .u8 ((n:Int) / 1099511627776 % 256))) w.heap.size 5 (q68 n 3):=by have h1:=HSet.out;have h2:(256:Nat) ^ (7 - 2)=1099511627776:=rfl;have h3:((n / 256 ^ (7 - 2) % 256:Nat):Int)=(n:Int) / 1099511627776 % 256:=(by rw[h2];omega);rw[h3]at h1;exact h1
    have HS:=q00 hs;clear hs;go_wp2_with fail;go_roundw
    case rel=>exact⟨3,by omega,by go_num,HS.out,hm.setCell (.inr (Nat.le_refl _)) _⟩
    case measure=>simp[intOf]
   ·have hs:Blk (wr.setCell ⟨w.heap.size,3,none⟩ (.int .u8 ((n:Int) / 4294967296 % 256))) w.heap.size 5 (q68 n 4):=by have h1:=HSet.out;have h2:(256:Nat) ^ (7 - 3)=4294967296:=rfl;have h3:((n / 256 ^ (7 - 3) % 256:Nat):Int)=(n:Int) / 4294967296 % 256:=(by rw[h2];omega);rw[h3]at h1;exact h1
    have HS:=q00 hs;clear hs;go_wp2_with fail;go_roundw
    case rel=>exact⟨4,by omega,by go_num,HS.out,hm.setCell (.inr (Nat.le_refl _)) _⟩
    case measure=>simp[intOf]
   ·have hs:Blk (wr.setCell ⟨w.heap.size,4,none⟩ (.int .u8 ((n:Int) / 16777216 % 256))) w.heap.size 5 (q68 n 5):=by have h1:=HSet.out;have h2:(256:Nat) ^ (7 - 4)=16777216:=rfl;have h3:((n / 256 ^ (7 - 4) % 256:Nat):Int)=(n:Int) / 16777216 % 256:=(by rw[h2];omega);rw[h3]at h1;exact h1
    have HS:=q00 hs;clear hs;go_wp2_with fail;go_roundw
    case rel=>exact⟨5,by omega,by go_num,HS.out,hm.setCell (.inr (Nat.le_refl _)) _⟩
    case measure=>simp[intOf]
   ·have hs:Blk (wr.setCell ⟨w.heap.size,5,none⟩ (.int .u8 ((n:Int) / 65536 % 256))) w.heap.size 5 (q68 n 6):=by have h1:=HSet.out;have h2:(256:Nat) ^ (7 - 5)=65536:=rfl;have h3:((n / 256 ^ (7 - 5) % 256:Nat):Int)=(n:Int) / 65536 % 256:=(by rw[h2];omega);rw[h3]at h1;exact h1
    have HS:=q00 hs;clear hs;go_wp2_with fail;go_roundw
    case rel=>exact⟨6,by omega,by go_num,HS.out,hm.setCell (.inr (Nat.le_refl _)) _⟩
    case measure=>simp[intOf]
   ·have hs:Blk (wr.setCell ⟨w.heap.size,6,none⟩ (.int .u8 ((n:Int) / 256 % 256))) w.heap.size 5 (q68 n 7):=by have h1:=HSet.out;have h2:(256:Nat) ^ (7 - 6)=256:=rfl;have h3:((n / 256 ^ (7 - 6) % 256:Nat):Int)=(n:Int) / 256 % 256:=(by rw[h2];omega);rw[h3]at h1;exact h1
    have HS:=q00 hs;clear hs;go_wp2_with fail;go_roundw
    case rel=>exact⟨7,by omega,by go_num,HS.out,hm.setCell (.inr (Nat.le_refl _)) _⟩
    case measure=>simp[intOf]
   ·have hs:Blk (wr.setCell ⟨w.heap.size,7,none⟩ (.int .u8 ((n:Int) % 256))) w.heap.size 5 (q68 n 8):=by have h1:=HSet.out;have h2:(256:Nat) ^ (7 - 7)=1:=rfl;have h3:((n / 256 ^ (7 - 7) % 256:Nat):Int)=(n:Int) % 256:=(by rw[h2];omega);rw[h3]at h1;exact h1
    have HS:=q00 hs;clear hs;go_wp2_with fail;go_roundw
    case rel=>exact⟨8,by omega,by go_num,HS.out,hm.setCell (.inr (Nat.le_refl _)) _⟩
    case measure=>simp[intOf]
  ·have hj8:j=8:=(by omega);subst hj8;rw[ju9]at hb;have hcv:=qh2 _ _ _ [] 8 (by rw[List.append_nil];exact hb);rw[q32]at hcv;clear hb h;go_wp2_with fail;go_ret;exact⟨by rfl,hm⟩
theorem zd0 (w:World) (n:Nat):Calls Tryz.prog 157 #[.int .u64 n] w fun e w'=>e=.returned (str (q03 n))∧Mod [] w w':=by go_enter Tryz.func157,Tryz.ntmps157;go_wp2_with fail;refine(jr8 w n).mono ?_;rintro e w1 ⟨rfl,m1⟩;go_wp2_with fail;go_ret;exact⟨rfl,m1⟩
def q50 (n:Nat):ByteArray:=⟨(q03 n).toArray⟩
theorem q10 (n:Nat):(q50 n).size≤8:=q11 n
theorem q60 (n:Nat):(q50 n).data.toList=q03 n:=rfl
theorem q18 (w:World) (n:Nat):Calls Tryz.prog 157 #[.int .u64 n] w fun e w'=>e=.returned (.string (q50 n))∧Mod [] w w':=zd0 w n
theorem qo7 (w:World) (s:ByteArray) (hs:s.size≤4611686018427387903):
  Calls Tryz.prog 158 #[.string s] w fun e w'=>e=.returned (.string (q50 s.size++ s))∧Mod [] w w':=by
 obtain⟨B,hB⟩:∃B,q50 s.size=B:=⟨_,rfl⟩;have hBs:B.size≤8:=(by rw[←hB];exact q10 _);have hput:=fun w=>q18 w s.size;rw[hB]at hput ⊢;have HP:=q00 hput;have hsum:B.size+s.size≤9223372036854775807:=(by omega);clear hB hput;go_enter Tryz.func158,Tryz.ntmps158;go_wp2_with fail;refine(HP.out _).mono ?_;rintro e w1 ⟨rfl,m1⟩;go_wp2_with fail;go_ret;exact⟨rfl,m1⟩
def q40 (l:List (Nat×Nat)) (j:Nat):Option Nat:=match j with | 0=>none | k+1=>(l[k]?).map (·.1)
def j71 (prev:Option Nat) (r:Nat×Nat):Bool:=decide (r.1≤r.2) && decide (r.2 < 4611686018427387904) && (match prev with | none=>true | some p=>decide (2≤p) && decide (r.2≤p - 2))
theorem jb4 {l:List (Nat×Nat)} {j:Nat} (hj:j < l.length):q56 (q40 l j) (l.drop j)=(j71 (q40 l j) l[j] && q56 (q40 l (j+1)) (l.drop (j+1))):=by
 rw[List.drop_eq_getElem_cons hj];have:q40 l (j+1)=some l[j].1:=(by unfold q40;simp only;rw[List.getElem?_eq_getElem hj];rfl);rw[this]
 conv=>lhs;unfold q56
 rfl
theorem ja8 (w:World) (A:Option Addr) (n c:Nat) (l:List (Nat×Nat)) (h:Rngs w A n l) (v:Bool) (hv:rngs l=v):
  Calls Tryz.prog 164 #[.slice A n c] w (RPost w v):=by
 have hn1:=h.2.1;have hln:=h.1;have hv2:v=(q56 none l && (decide (1≤n) && decide (n≤64))):=(by rw[←hv,←hln];rfl);have HV:=q00 hv2;have HL:=q00 h;have HLn:=q00 hln;clear hv hv2 h hln;go_enter Tryz.func164,Tryz.ntmps164;go_wp2_with fail;go_loopw [7] (fun iv wr=>∃j:Nat,j≤n∧iv=.int .i64 (j:Int)∧Hid (q56 none l=q56 (q40 l j) (l.drop j))∧Hid (∀p,q40 l j=some p→p < 4611686018427387904)∧Mod [] w wr) (fun iv _=>n - (intOf iv).toNat)
 case atStart=>exact⟨0,by omega,rfl,q00 rfl,q00 (fun p hp=>by cases hp),Mod.refl _ _⟩
 case round=>
  obtain⟨j,hj,rfl,hC,hPb,hm⟩:=hrel;by_cases h:j < n
  ·obtain⟨g,o,hjl,rfl,hgl,c0,c1⟩:=(HL.out.new hm).at_ h;have hstep:=jb4 hjl;rw[←hC.out]at hstep;have hbx:Blk (wr.alloc (.cells #[.int .u64 (l[j].1:Nat),.int .u64 (l[j].2:Nat)] 77)) wr.heap.size 77 #[.int .u64 (l[j].1:Nat),.int .u64 (l[j].2:Nat)]:=Blk.new _ _ _;have hm2:=hm.alloc (.cells #[.int .u64 (l[j].1:Nat),.int .u64 (l[j].2:Nat)] 77);have hprev:0 < j→∃p,q40 l j=some p∧wr.cell? ⟨g,o+(j - 1) * 2,none⟩=some (.int .u64 (p:Nat)):=fun h0=>(by obtain⟨g',o',hkl,he,_,d0,_⟩:=(HL.out.new hm).at_ (i:=j - 1) (by omega);cases he;refine⟨l[j - 1].1,?_,d0⟩;obtain⟨k,rfl⟩:∃k,j=k+1:=⟨j - 1,by omega⟩;unfold q40;simp only[Nat.add_sub_cancel];rw[List.getElem?_eq_getElem (by omega)];rfl);have hnp:q40 l (j+1)=some l[j].1:=(by unfold q40;simp only;rw[List.getElem?_eq_getElem hjl];rfl);obtain⟨lo,hlo⟩:∃x,l[j].1=x:=⟨_,rfl⟩;obtain⟨hi,hhi⟩:∃x,l[j].2=x:=⟨_,rfl⟩;rw[hlo]at c0 hbx hm2 hnp;rw[hhi]at c1 hbx hm2;have hcond:j71 (q40 l j) l[j]=(decide (lo≤hi) && decide (hi < 4611686018427387904) && (match q40 l j with | none=>true | some p=>decide (2≤p) && decide (hi≤p - 2))):=(by unfold j71;rw[hlo,hhi]);rw[hcond]at hstep;have hvf:∀X:Bool,X=false→q56 none l=(X && q56 (q40 l (j+1)) (l.drop (j+1)))→v=false:=fun X hX he=>(by rw[HV.out,he,hX];rfl);have b0:=hbx.cell 0;have b1:=hbx.cell 1;have HB:=q00 hbx;have HM2:=q00 hm2;have HVf:=q00 hvf;have HPrev:=q00 hprev;have HStep:=q00 hstep;have HNp:=q00 hnp;have hbl:=hbx.lt;clear hC hprev hstep hcond hlo hhi hbx hm2 hvf hjl hnp;have q0:(wr.alloc (.cells #[.int .u64 (lo:Nat),.int .u64 (hi:Nat)] 77)).cell? ⟨wr.heap.size,0,none⟩=some (.int .u64 (lo:Nat)):=b0;have q1:(wr.alloc (.cells #[.int .u64 (lo:Nat),.int .u64 (hi:Nat)] 77)).cell? ⟨wr.heap.size,1,none⟩=some (.int .u64 (hi:Nat)):=b1;clear b0 b1;by_cases h1:hi < lo
   ·have hf:=HVf.out _ (by rw[decide_eq_false (show ¬lo≤hi by omega)];rfl) HStep.out;have HF:=q00 hf;have d1:decide ((hi:Int) < lo)=true:=decide_eq_true (by omega);have d2:decide (hi < lo)=true:=decide_eq_true h1;clear hf HVf HStep HPrev hm;go_wp2_with fail;go_quiet (fail);go_wp2_with fail;go_ret;exact⟨by rw[HF.out];rfl,HM2.out.drewN _⟩
   have d1:decide ((hi:Int) < lo)=false:=decide_eq_false (by omega);have d2:decide (hi < lo)=false:=decide_eq_false h1;by_cases h2:4611686018427387903 < hi
   ·have hf:=HVf.out _ (by rw[decide_eq_false (show ¬hi < 4611686018427387904 by omega)];simp) HStep.out;have HF:=q00 hf;have d3:decide ((4611686018427387903:Int) < hi)=true:=decide_eq_true (by omega);have d4:decide (4611686018427387903 < hi)=true:=decide_eq_true h2;clear hf HVf HStep HPrev hm;go_wp2_with fail;go_quiet (fail);go_wp2_with fail;go_ret;exact⟨by rw[HF.out];rfl,HM2.out.drewN _⟩
   have d3:decide ((4611686018427387903:Int) < hi)=false:=decide_eq_false (by omega);have d4:decide (4611686018427387903 < hi)=false:=decide_eq_false h2;by_cases h0:0 < j
   ·obtain⟨p,hp,cp⟩:=HPrev.out h0;rw[hp]at HStep;have e1:(j:Int) - 1=((j - 1:Nat):Int):=(by omega);have hw1:IntKind.i64.wrap ((j:Int) - 1)=((j - 1:Nat):Int):=(by rw[e1];exact IntWalk.i64_in _ (by omega));have h0d:decide ((0:Int) < j)=true:=decide_eq_true (by omega);have h0n:decide (0 < j)=true:=decide_eq_true h0;have hjm:((j - 1:Nat):Int) < n:=(by omega);have HPp:=q00 hp;clear hp;by_cases h3:p < 2
    ·have hf:=HVf.out _ (by simp only;rw[decide_eq_false (show ¬2≤p by omega)];simp) HStep.out;have HF:=q00 hf;have d5:decide ((p:Int) < 2)=true:=decide_eq_true (by omega);have d6:decide (p < 2)=true:=decide_eq_true h3;clear hf HVf HStep HPrev hm;go_wp2_with fail;go_quiet (fail);go_wp2_with fail;go_ret;exact⟨by rw[HF.out];rfl,HM2.out.drewN _⟩
    ·have d5:decide ((p:Int) < 2)=false:=decide_eq_false (by omega);have d6:decide (p < 2)=false:=decide_eq_false h3;obtain⟨p2,hp2⟩:∃p2,p=p2+2:=⟨p - 2,by omega⟩;have HP2:=q00 hp2;have hsub:(p:Int) - 2=(p2:Int):=(by omega);have hp64:p < 4611686018427387904:=hPb.out p HPp.out;by_cases h4:p2 < hi
     ·have hf:=HVf.out _ (by simp only;rw[decide_eq_false (show ¬hi≤p - 2 by omega)];simp) HStep.out;have HF:=q00 hf;have d7:decide ((p2:Int) < hi)=true:=decide_eq_true (by omega);have d8:decide (p2 < hi)=true:=decide_eq_true h4;have hw2:IntKind.u64.wrap ((p:Int) - 2)=(p2:Int):=(by rw[hsub];exact IntWalk.u64_in _ (by omega));clear hf HVf HStep HPrev hm hp2;go_wp2_with fail;go_quiet (fail);go_wp2_with fail;go_ret;exact⟨by rw[HF.out];rfl,HM2.out.drewN _⟩
     ·have d7:decide ((p2:Int) < hi)=false:=decide_eq_false (by omega);have d8:decide (p2 < hi)=false:=decide_eq_false h4;have hw2:IntKind.u64.wrap ((p:Int) - 2)=(p2:Int):=(by rw[hsub];exact IntWalk.u64_in _ (by omega));have hnx:q56 none l=q56 (q40 l (j+1)) (l.drop (j+1)):=(by rw[HStep.out];simp only;rw[decide_eq_true (show lo≤hi by omega),decide_eq_true (show hi < 4611686018427387904 by omega),decide_eq_true (show 2≤p by omega),decide_eq_true (show hi≤p - 2 by omega)];simp);have HNx:=q00 hnx;have HPn:Hid (∀p,q40 l (j+1)=some p→p < 4611686018427387904):=q00 (fun p hp=>by rw[HNp.out]at hp;cases hp;omega);clear HVf HStep HPrev hm hp2 hnx hPb;go_wp2_with fail;go_quiet (fail);go_wp2_with fail;go_roundw
      case rel=>exact⟨j+1,by omega,by go_num,HNx,HPn,HM2.out.drewN _⟩
      case measure=>simp[intOf];omega
   ·have hj0:j=0:=(by omega);subst hj0;have hnx:q56 none l=q56 (q40 l 1) (l.drop 1):=(by rw[HStep.out];have:q40 l 0=none:=rfl;rw[this];simp only;rw[decide_eq_true (show lo≤hi by omega),decide_eq_true (show hi < 4611686018427387904 by omega)];simp);have HNx:=q00 hnx;have HPn:Hid (∀p,q40 l 1=some p→p < 4611686018427387904):=q00 (fun p hp=>by rw[HNp.out]at hp;cases hp;omega);simp only[Nat.zero_mul,Nat.add_zero]at c0 c1;clear HVf HStep HPrev hm hnx hPb;go_wp2_with fail;go_quiet (fail);go_wp2_with fail;go_roundw
    case rel=>exact⟨1,by omega,by go_num,HNx,HPn,HM2.out.drewN _⟩
    case measure=>simp[intOf];omega
  ·have hjn:j=n:=(by omega);subst hjn;have hv3:v=(decide (1≤j) && decide (j≤64)):=(by rw[HV.out,hC.out,List.drop_of_length_le (by rw[HLn.out];exact Nat.le_refl _)];rfl);have HV3:=q00 hv3;clear hv3 hC hPb;by_cases h1:0 < j
   ·have d1:decide ((0:Int) < j)=true:=decide_eq_true (by omega);have d2:decide (0 < j)=true:=decide_eq_true h1;go_wp2_with fail;go_ret;refine⟨ja9 ?_,hm⟩;rw[HV3.out,decide_eq_true (show 1≤j by omega),Bool.true_and];exact decide_eq_decide.2 (by omega)
   ·have d1:decide ((0:Int) < j)=false:=decide_eq_false (by omega);have d2:decide (0 < j)=false:=decide_eq_false h1;go_wp2_with fail;go_ret;refine⟨ja9 ?_,hm⟩;rw[HV3.out,decide_eq_false (show ¬1≤j by omega)];rfl
theorem RPost.of {w w':World} {v u:Bool} (h:v=u) (hm:Mod [] w w'):RPost w v (.returned (.bool u)) w':=⟨by rw[h],hm⟩
theorem q70 {S:ByteArray} (h:S.size≠0):S.toList.isEmpty=false:=by rw[qq0];exact decide_eq_false h
theorem q84 {S:ByteArray} (h:S.size=0):S.toList.isEmpty=true:=by rw[qq0];exact decide_eq_true h
theorem za7 (w:World) (A:Option Addr) (n c:Nat) (f:Fr) (hr:Rngs w A n f.list) (v:Bool) (hv:qv4 f=v):
  Calls Tryz.prog 126 #[q17 A n c f] w (RPost w v):=by
 have hr2:=hr.new ((Mod.refl [] w).alloc (.cells (fcs A n c f) 36));have HR:=q00 hr2
 have hun:v=((if f.kind=3 then decide (f.more.size=8) && decide (q52 0 f.more.data.toList < 4611686018427387904)else decide (f.b=0) && decide (f.c=0) && decide (f.more.size=0)) &&
  (!f.fin && decide (f.data.size=0) && rngs f.list)):=by rw[←hv];rfl
 have HV:=q00 hun;have hml:(8:Nat)=f.more.size→f.more.size≤8:=fun h=>(by omega);have HBx:=q00 (Blk.new w 36 (fcs A n c f));clear hr hr2 hv hun;unfold q17 fcs at *;have tailF:f.fin=true→∀X:Bool,(X && (!f.fin && decide (f.data.size=0) && rngs f.list))=false:=fun h X=>(by rw[h];simp);have tailD:f.data.size≠0→∀X:Bool,(X && (!f.fin && decide (f.data.size=0) && rngs f.list))=false:=fun h X=>(by rw[decide_eq_false h];simp);have tailO:f.fin=false→f.data.size=0→(true && (!f.fin && decide (f.data.size=0) && rngs f.list))=rngs f.list:=fun h h2=>(by rw[h,decide_eq_true h2];rfl);have TF:=q00 tailF;have TD:=q00 tailD;have TO:=q00 tailO;obtain⟨fin,hfin⟩:∃b,f.fin=b:=⟨_,rfl⟩;have HFin:=q00 hfin;rw[hfin]at HR HBx ⊢;clear tailF tailD tailO hfin;by_cases hk:f.kind=3
 ·have hkb:((f.kind:Int)==3)=true:=(by simp;omega);by_cases h8:f.more.size=8;rotate_left
  ·have HVf:Hid (v=false):=q00 (by rw[HV.out,if_pos hk,decide_eq_false h8];rfl);have m8:((f.more.size:Int) !=8)=true:=(by simp;omega);clear hk h8;go_enter Tryz.func126,Tryz.ntmps126;go_wp2_with fail;go_ret;exact RPost.of HVf.out ((Mod.refl _ _).alloc _)
  obtain⟨N,hN⟩:∃N,q52 0 f.more.data.toList=N:=⟨_,rfl⟩;have HNum:=q00 (fun w=>ja0 w f.more (by omega));have m8:((f.more.size:Int) !=8)=false:=(by simp;omega);have HN:=q00 hN;by_cases hN2:4611686018427387903 < N
  ·have HVf:Hid (v=false):=q00 (by rw[HV.out,if_pos hk,hN,decide_eq_false (show ¬N < 4611686018427387904 by omega)];simp);have hN3:(4611686018427387903:Int) < N:=(by omega);clear hk h8 hN;go_enter Tryz.func126,Tryz.ntmps126;go_wp2_with fail;refine(HNum.out _).mono ?_;rintro e w1 ⟨rfl,m1⟩;rw[HN.out];go_wp2_with fail;go_ret;exact RPost.of HVf.out (((Mod.refl _ _).alloc _).trans m1 (by simp))
  have HX:Hid ((if f.kind=3 then decide (f.more.size=8) && decide (q52 0 f.more.data.toList < 4611686018427387904)else decide (f.b=0) && decide (f.c=0) && decide (f.more.size=0))=true):=q00 (by rw[if_pos hk,hN,decide_eq_true h8,decide_eq_true (show N < 4611686018427387904 by omega)];rfl);have hN3:¬(4611686018427387903:Int) < N:=(by omega);clear hk h8 hN;cases fin
  ·by_cases hds:f.data.size=0
   ·have de:=q84 hds;have HVf:Hid (v=rngs f.list):=q00 (by rw[HV.out,HX.out];exact TO.out HFin.out hds);go_enter Tryz.func126,Tryz.ntmps126;go_wp2_with fail;refine(HNum.out _).mono ?_;rintro e w1 ⟨rfl,m1⟩;rw[HN.out];have hbx:=m1.blk HBx.out (by simp);have p4:=hbx.cell 4;have p5:w1.cell? ⟨w.heap.size,5,none⟩=some (.string f.data):=hbx.cell 5;have p7:w1.cell? ⟨w.heap.size,7,none⟩=some (.slice A n c):=hbx.cell 7;have pl:=hbx.lt;simp only[List.getElem?_toArray,List.getElem?_cons_succ,List.getElem?_cons_zero]at p4;clear hbx;go_wp2_with fail;refine(ja8 _ A n c f.list (HR.out.new m1) v HVf.out.symm).mono ?_;rintro e w' ⟨rfl,m2⟩;go_wp2_with fail;go_ret;exact RPost.of rfl ((((Mod.refl _ _).alloc _).trans m1 (by simp)).trans m2 (by simp))
   ·have de:=q70 hds;have HVf:Hid (v=false):=q00 (by rw[HV.out];exact TD.out hds _);go_enter Tryz.func126,Tryz.ntmps126;go_wp2_with fail;refine(HNum.out _).mono ?_;rintro e w1 ⟨rfl,m1⟩;rw[HN.out];have hbx:=m1.blk HBx.out (by simp);have p4:=hbx.cell 4;have p5:w1.cell? ⟨w.heap.size,5,none⟩=some (.string f.data):=hbx.cell 5;have p7:w1.cell? ⟨w.heap.size,7,none⟩=some (.slice A n c):=hbx.cell 7;have pl:=hbx.lt;simp only[List.getElem?_toArray,List.getElem?_cons_succ,List.getElem?_cons_zero]at p4;clear hbx;go_wp2_with fail;go_ret;exact RPost.of HVf.out ((((Mod.refl _ _).alloc _).trans m1 (by simp)))
  ·have HVf:Hid (v=false):=q00 (by rw[HV.out];exact TF.out HFin.out _);go_enter Tryz.func126,Tryz.ntmps126;go_wp2_with fail;refine(HNum.out _).mono ?_;rintro e w1 ⟨rfl,m1⟩;rw[HN.out];have hbx:=m1.blk HBx.out (by simp);have p4:=hbx.cell 4;have p5:w1.cell? ⟨w.heap.size,5,none⟩=some (.string f.data):=hbx.cell 5;have p7:w1.cell? ⟨w.heap.size,7,none⟩=some (.slice A n c):=hbx.cell 7;have pl:=hbx.lt;simp only[List.getElem?_toArray,List.getElem?_cons_succ,List.getElem?_cons_zero]at p4;clear hbx;go_wp2_with fail;go_ret;exact RPost.of HVf.out ((((Mod.refl _ _).alloc _).trans m1 (by simp)))
 ·have hkb:((f.kind:Int)==3)=false:=(by simp;omega);by_cases hb:f.b=0;rotate_left
  ·have HVf:Hid (v=false):=q00 (by rw[HV.out,if_neg hk,decide_eq_false hb];rfl);have hb1:((f.b:Int) !=0)=true:=(by simp;omega);clear hk hb;go_enter Tryz.func126,Tryz.ntmps126;go_wp2_with fail;go_ret;exact RPost.of HVf.out ((Mod.refl _ _).alloc _)
  have hb1:((f.b:Int) !=0)=false:=(by simp;omega);by_cases hc:f.c=0;rotate_left
  ·have HVf:Hid (v=false):=q00 (by rw[HV.out,if_neg hk,decide_eq_false hc];simp);have hc1:((f.c:Int) !=0)=true:=(by simp;omega);clear hk hb hc;go_enter Tryz.func126,Tryz.ntmps126;go_wp2_with fail;go_ret;exact RPost.of HVf.out ((Mod.refl _ _).alloc _)
  have hc1:((f.c:Int) !=0)=false:=(by simp;omega);by_cases hmm:f.more.size=0;rotate_left
  ·have HVf:Hid (v=false):=q00 (by rw[HV.out,if_neg hk,decide_eq_false hmm];simp);have me:=q70 hmm;clear hk hb hc hmm;go_enter Tryz.func126,Tryz.ntmps126;go_wp2_with fail;go_ret;exact RPost.of HVf.out ((Mod.refl _ _).alloc _)
  have me:=q84 hmm;have HX:Hid ((if f.kind=3 then decide (f.more.size=8) && decide (q52 0 f.more.data.toList < 4611686018427387904)else decide (f.b=0) && decide (f.c=0) && decide (f.more.size=0))=true):=q00 (by rw[if_neg hk,decide_eq_true hb,decide_eq_true hc,decide_eq_true hmm];rfl);clear hk hb hc hmm;cases fin
  ·by_cases hds:f.data.size=0
   ·have de:=q84 hds;have HVf:Hid (v=rngs f.list):=q00 (by rw[HV.out,HX.out];exact TO.out HFin.out hds);go_enter Tryz.func126,Tryz.ntmps126;go_wp2_with fail;refine(ja8 _ A n c f.list (HR.out) v HVf.out.symm).mono ?_;rintro e w' ⟨rfl,m2⟩;go_wp2_with fail;go_ret;exact RPost.of rfl (((Mod.refl _ _).alloc _).trans m2 (by simp))
   ·have de:=q70 hds;have HVf:Hid (v=false):=q00 (by rw[HV.out];exact TD.out hds _);go_enter Tryz.func126,Tryz.ntmps126;go_wp2_with fail;go_ret;exact RPost.of HVf.out (((Mod.refl _ _).alloc _))
  ·have HVf:Hid (v=false):=q00 (by rw[HV.out];exact TF.out HFin.out _);go_enter Tryz.func126,Tryz.ntmps126;go_wp2_with fail;go_ret;exact RPost.of HVf.out (((Mod.refl _ _).alloc _))
theorem ja (w:World) (A:Option Addr) (n c:Nat) (f:Fr) (ha:f.a < 4611686018427387904) (hd:f.data.size≤16384) (v:Bool) (hv:qm4 f=v):
  Calls Tryz.prog 90 #[q17 A n c f] w (RPost w v):=by
 have hun:v=(if f.kind=18∨f.kind=19∨f.kind=22∨f.kind=23 then decide (f.a≤1152921504606846976)
  else if f.kind=7 then decide (f.data.size≠0)else if f.kind=6 then decide (f.a+f.data.size < 4611686018427387904)else true):=by rw[←hv];rfl
 have HV:=q00 hun;obtain⟨k,hk⟩:∃k,f.kind=k:=⟨_,rfl⟩;rw[hk]at HV;clear hv hun;unfold q17 fcs;rw[hk];clear hk;by_cases h1:k=18∨k=19∨k=22∨k=23
 ·have HVf:Hid (v=decide (f.a≤1152921504606846976)):=q00 (by rw[HV.out,if_pos h1]);clear HV;rcases h1 with rfl | rfl | rfl | rfl;all_goals
   go_enter Tryz.func90,Tryz.ntmps90
   go_wp2_with fail
   go_ret
   refine RPost.of ?_ ((Mod.refl _ _).alloc _)
   rw[HVf.out]
   exact decide_eq_decide.2 (by omega)
 by_cases h7:k=7
 ·subst h7;have HVf:Hid (v=decide (f.data.size≠0)):=q00 (by rw[HV.out,if_neg h1,if_pos rfl]);clear HV h1;by_cases hz:f.data.size=0
  ·have e:=q84 hz;have HVg:Hid (v=false):=q00 (by rw[HVf.out,hz];rfl);clear HVf hz;go_enter Tryz.func90,Tryz.ntmps90;go_wp2_with fail;go_ret;exact RPost.of HVg.out ((Mod.refl _ _).alloc _)
  ·have e:=q70 hz;have HVg:Hid (v=true):=q00 (by rw[HVf.out];exact decide_eq_true hz);clear HVf hz;go_enter Tryz.func90,Tryz.ntmps90;go_wp2_with fail;go_ret;exact RPost.of HVg.out ((Mod.refl _ _).alloc _)
 by_cases h6:k=6
 ·subst h6;have HVf:Hid (v=decide (f.a+f.data.size < 4611686018427387904)):=q00 (by rw[HV.out,if_neg h1,if_neg h7,if_pos rfl]);clear HV h1 h7;go_enter Tryz.func90,Tryz.ntmps90;go_wp2_with fail;go_ret;refine RPost.of ?_ ((Mod.refl _ _).alloc _);rw[HVf.out];exact decide_eq_decide.2 (by omega)
 ·have HVf:Hid (v=true):=q00 (by rw[HV.out,if_neg h1,if_neg h7,if_neg h6]);have e18:((k:Int)==18)=false:=(by simp;omega);have e19:((k:Int)==19)=false:=(by simp;omega);have e22:((k:Int)==22)=false:=(by simp;omega);have e23:((k:Int)==23)=false:=(by simp;omega);have e7:((k:Int)==7)=false:=(by simp;omega);have e6:((k:Int)==6)=false:=(by simp;omega);clear HV h1 h7 h6;go_enter Tryz.func90,Tryz.ntmps90;go_wp2_with fail;go_ret;exact RPost.of HVf.out ((Mod.refl _ _).alloc _)
theorem zx1 {f:Fr} (hk:f.kind=0):qa8 f=(decide (1≤f.a) && decide (f.a≤16384) && decide (f.list= []) && qc6 f ⟨0,f.a,0,0,false,⟨#[]⟩,⟨#[]⟩,[]⟩):=by
 rw[Bool.eq_iff_iff];constructor
 ·intro h;obtain⟨h1,h2,h3⟩:=zv hk h;simp only[Bool.and_eq_true,decide_eq_true_eq];exact⟨⟨⟨h1,h2⟩,by rw[h3]⟩,fsame_iff.2 h3⟩
 ·intro h;simp only[Bool.and_eq_true,decide_eq_true_eq]at h;obtain⟨⟨⟨h1,h2⟩,h3⟩,h4⟩:=h;have h5:=fsame_iff.1 h4;rw[h5];unfold qa8;simp[h1,h2];rfl
theorem zh5 (w:World) (A:Option Addr) (n c:Nat) (f:Fr) (hr:Rngs w A n f.list) (v:Bool) (hv:qa8 f=v) (h0:f.kind=0):
  Calls Tryz.prog 88 #[q17 A n c f] w (RPost w v):=by
 have hnl:f.list= []↔n=0:=by
  have:=hr.1;constructor
  ·intro h;rw[h]at this;simpa using this.symm
  ·intro h;exact List.eq_nil_of_length_eq_zero (by omega)
 have hl0:decide (f.list= [])=decide (n=0):=decide_eq_decide.2 hnl;have HL0:=q00 hl0;clear hl0;have hn62:=hr.2.1;have HRn:=q00 (hr.new ((Mod.refl [] w).alloc (.cells (fcs A n c f) 36)));have hun:=hv.symm.trans (zx1 h0);rw[HL0.out]at hun;have HV:=q00 hun;clear hv hun hr hnl HL0;unfold q17 fcs at *;have hsm:=q00 (fun w' (h:Rngs w' A n f.list)=>ql7 w' A none n 0 c 0 f ⟨0,f.a,0,0,false,⟨#[]⟩,⟨#[]⟩,[]⟩ h (Rngs.nil _) _ rfl);have hk0:((f.kind:Int)==0)=true:=(by simp;omega);clear h0;by_cases hp0:1≤f.a;rotate_left
 ·have HVf:Hid (v=false):=q00 (by rw[HV.out];simp[hp0]);have q1:¬(1:Int)≤f.a:=(by omega);have q1b:decide ((1:Int)≤f.a)=false:=decide_eq_false (by omega);have q1c:decide (1≤f.a)=false:=decide_eq_false (by omega);have q1d:¬(0:Int) < f.a:=(by omega);have q1e:decide (0 < f.a)=false:=decide_eq_false (by omega);clear HV hp0;go_enter Tryz.func88,Tryz.ntmps88;go_wp2_with fail;go_ret;exact RPost.of HVf.out ((Mod.refl _ _).alloc _)
 have q1:(1:Int)≤f.a:=(by omega);by_cases hp1:f.a≤16384;rotate_left
 ·have HVf:Hid (v=false):=q00 (by rw[HV.out];simp[hp1]);have q2:¬(f.a:Int)≤16384:=(by omega);clear HV hp0 hp1;go_enter Tryz.func88,Tryz.ntmps88;go_wp2_with fail;go_ret;exact RPost.of HVf.out ((Mod.refl _ _).alloc _)
 have q2:(f.a:Int)≤16384:=(by omega);by_cases hp2:n=0;rotate_left
 ·have HVf:Hid (v=false):=q00 (by rw[HV.out];simp[hp2]);have q3:((n:Int)==0)=false:=(by simp;omega);clear HV hp0 hp1 hp2;go_enter Tryz.func88,Tryz.ntmps88;go_wp2_with fail;go_ret;exact RPost.of HVf.out ((Mod.refl _ _).alloc _)
 have q3:((n:Int)==0)=true:=(by simp;omega);have HVf:Hid (v=qc6 f ⟨0,f.a,0,0,false,⟨#[]⟩,⟨#[]⟩,[]⟩):=q00 (by rw[HV.out];simp[hp0,hp1,hp2]);clear HV hp0 hp1 hp2;go_enter Tryz.func88,Tryz.ntmps88;go_wp2_with fail;refine(hsm.out _ HRn.out).mono ?_;rintro e w1 ⟨rfl,m1⟩;go_wp2_with fail;go_ret;exact RPost.of HVf.out (((Mod.refl _ _).alloc _).trans m1 (by simp))
theorem zh7 (w:World) (A:Option Addr) (n c:Nat) (f:Fr) (hr:Rngs w A n f.list) (v:Bool) (hv:qa8 f=v) (h2:f.kind=2∨f.kind=3):
  Calls Tryz.prog 88 #[q17 A n c f] w (RPost w v):=by
 have hnl:f.list= []↔n=0:=by
  have:=hr.1;constructor
  ·intro h;rw[h]at this;simpa using this.symm
  ·intro h;exact List.eq_nil_of_length_eq_zero (by omega)
 have hl0:decide (f.list= [])=decide (n=0):=decide_eq_decide.2 hnl;have HL0:=q00 hl0;clear hl0;have hn62:=hr.2.1;have HRn:=q00 (hr.new ((Mod.refl [] w).alloc (.cells (fcs A n c f) 36)));have hun:v=qv4 f:=(by rw[←hv];unfold qa8;rw[if_neg (by omega),if_pos h2]);have HV:=q00 hun;have hak:=q00 (fun w' (h:Rngs w' A n f.list)=>za7 w' A n c f h _ rfl);clear hv hun hr hnl HL0;unfold q17 fcs at *;have e0:((f.kind:Int)==0)=false:=(by simp;omega);by_cases h22:f.kind=2
 ·have e2:((f.kind:Int)==2)=true:=(by simp;omega);clear h2 h22;go_enter Tryz.func88,Tryz.ntmps88;go_wp2_with fail;refine(hak.out _ HRn.out).mono ?_;rintro e w1 ⟨rfl,m1⟩;go_wp2_with fail;go_ret;exact RPost.of HV.out (((Mod.refl _ _).alloc _).trans m1 (by simp))
 ·have e2:((f.kind:Int)==2)=false:=(by simp;omega);have e3:((f.kind:Int)==3)=true:=(by simp;omega);clear h2 h22;go_enter Tryz.func88,Tryz.ntmps88;go_wp2_with fail;refine(hak.out _ HRn.out).mono ?_;rintro e w1 ⟨rfl,m1⟩;go_wp2_with fail;go_ret;exact RPost.of HV.out (((Mod.refl _ _).alloc _).trans m1 (by simp))
theorem zh6 (w:World) (A:Option Addr) (n c:Nat) (f:Fr) (hr:Rngs w A n f.list) (hb:f.b < 4611686018427387904) (hd:f.data.size≤16384) (v:Bool) (hv:qa8 f=v) (h8:f.kind=8):
  Calls Tryz.prog 88 #[q17 A n c f] w (RPost w v):=by
 have hnl:f.list= []↔n=0:=by
  have:=hr.1;constructor
  ·intro h;rw[h]at this;simpa using this.symm
  ·intro h;exact List.eq_nil_of_length_eq_zero (by omega)
 have hl0:decide (f.list= [])=decide (n=0):=decide_eq_decide.2 hnl;have HL0:=q00 hl0;clear hl0;have hn62:=hr.2.1;have HRn:=q00 (hr.new ((Mod.refl [] w).alloc (.cells (fcs A n c f) 36)));have e0:((f.kind:Int)==0)=false:=(by simp;omega);have e2:((f.kind:Int)==2)=false:=(by simp;omega);have e3:((f.kind:Int)==3)=false:=(by simp;omega);have hun:v=(decide (n=0) && decide (f.c=0) && decide (f.more.size=0) && decide (f.b+f.data.size < 4611686018427387904)):=(by rw[←hv];unfold qa8;rw[if_neg (by omega),if_neg (by omega),if_pos h8,HL0.out]);have HV:=q00 hun;have e8:((f.kind:Int)==8)=true:=(by simp;omega);clear hv hun hr h8 hnl HL0 HRn;unfold q17 fcs at *;by_cases hp0:n=0;rotate_left
 ·have HVf:Hid (v=false):=q00 (by rw[HV.out];simp[hp0]);have q3:((n:Int)==0)=false:=(by simp;omega);clear HV hp0;go_enter Tryz.func88,Tryz.ntmps88;go_wp2_with fail;go_ret;exact RPost.of HVf.out ((Mod.refl _ _).alloc _)
 have q3:((n:Int)==0)=true:=(by simp;omega);by_cases hp1:f.c=0;rotate_left
 ·have HVf:Hid (v=false):=q00 (by rw[HV.out];simp[hp1]);have q4:((f.c:Int)==0)=false:=(by simp;omega);clear HV hp0 hp1;go_enter Tryz.func88,Tryz.ntmps88;go_wp2_with fail;go_ret;exact RPost.of HVf.out ((Mod.refl _ _).alloc _)
 have q4:((f.c:Int)==0)=true:=(by simp;omega);by_cases hp2:f.more.size=0;rotate_left
 ·have HVf:Hid (v=false):=q00 (by rw[HV.out];simp[hp2]);have q5:f.more.toList.isEmpty=false:=q70 hp2;clear HV hp0 hp1 hp2;go_enter Tryz.func88,Tryz.ntmps88;go_wp2_with fail;go_ret;exact RPost.of HVf.out ((Mod.refl _ _).alloc _)
 have q5:f.more.toList.isEmpty=true:=q84 hp2;by_cases hp3:f.b+f.data.size < 4611686018427387904;rotate_left
 ·have HVf:Hid (v=false):=q00 (by rw[HV.out];simp[hp3]);have q6:¬(f.b:Int)+f.data.size≤4611686018427387903:=(by omega);clear HV hp0 hp1 hp2 hp3;go_enter Tryz.func88,Tryz.ntmps88;go_wp2_with fail;go_ret;exact RPost.of HVf.out ((Mod.refl _ _).alloc _)
 have q6:(f.b:Int)+f.data.size≤4611686018427387903:=(by omega);have HVf:Hid (v=true):=q00 (by rw[HV.out];simp[hp0,hp1,hp2,hp3]);clear HV hp0 hp1 hp2 hp3;go_enter Tryz.func88,Tryz.ntmps88;go_wp2_with fail;go_ret;exact RPost.of HVf.out ((Mod.refl _ _).alloc _)
theorem z60 (w:World) (A:Option Addr) (n c:Nat) (f:Fr) (hr:Rngs w A n f.list) (hd:f.data.size≤16384) (v:Bool) (hv:qa8 f=v) (h24:f.kind=24):
  Calls Tryz.prog 88 #[q17 A n c f] w (RPost w v):=by
 have hnl:f.list= []↔n=0:=by
  have:=hr.1;constructor
  ·intro h;rw[h]at this;simpa using this.symm
  ·intro h;exact List.eq_nil_of_length_eq_zero (by omega)
 have hl0:decide (f.list= [])=decide (n=0):=decide_eq_decide.2 hnl;have HL0:=q00 hl0;clear hl0;have hn62:=hr.2.1;have HRn:=q00 (hr.new ((Mod.refl [] w).alloc (.cells (fcs A n c f) 36)));have e0:((f.kind:Int)==0)=false:=(by simp;omega);have e2:((f.kind:Int)==2)=false:=(by simp;omega);have e3:((f.kind:Int)==3)=false:=(by simp;omega);have e8:((f.kind:Int)==8)=false:=(by simp;omega);have hun:v=(decide (n=0) && decide (f.c=0) && !f.fin && decide (f.b≤f.a) && decide (1≤f.data.size) && decide (f.data.size≤20) && decide (f.more.size=16)):=(by rw[←hv];unfold qa8;rw[if_neg (by omega),if_neg (by omega),if_neg (by omega),if_pos h24,HL0.out]);have HV:=q00 hun;have e24:((f.kind:Int)==24)=true:=(by simp;omega);clear hv hun hr h24 hnl HL0 HRn;unfold q17 fcs at *;obtain⟨fin,hfin⟩:∃b,f.fin=b:=⟨_,rfl⟩;rw[hfin]at HV ⊢;clear hfin;by_cases hp0:n=0;rotate_left
 ·have HVf:Hid (v=false):=q00 (by rw[HV.out];simp[hp0]);have q3:((n:Int)==0)=false:=(by simp;omega);clear HV hp0;go_enter Tryz.func88,Tryz.ntmps88;go_wp2_with fail;go_ret;exact RPost.of HVf.out ((Mod.refl _ _).alloc _)
 have q3:((n:Int)==0)=true:=(by simp;omega);by_cases hp1:f.c=0;rotate_left
 ·have HVf:Hid (v=false):=q00 (by rw[HV.out];simp[hp1]);have q4:((f.c:Int)==0)=false:=(by simp;omega);clear HV hp0 hp1;go_enter Tryz.func88,Tryz.ntmps88;go_wp2_with fail;go_ret;exact RPost.of HVf.out ((Mod.refl _ _).alloc _)
 have q4:((f.c:Int)==0)=true:=(by simp;omega);by_cases hp2:fin=false;rotate_left
 ·have HVf:Hid (v=false):=q00 (by rw[HV.out];simp[hp2]);have q5:(!fin)=false:=(by cases fin;exact absurd rfl hp2;rfl);clear HV hp0 hp1 hp2;go_enter Tryz.func88,Tryz.ntmps88;go_wp2_with fail;go_ret;exact RPost.of HVf.out ((Mod.refl _ _).alloc _)
 have q5:(!fin)=true:=(by rw[hp2];rfl);by_cases hp3:f.b≤f.a;rotate_left
 ·have HVf:Hid (v=false):=q00 (by rw[HV.out];simp[hp3]);have q6:¬(f.b:Int)≤f.a:=(by omega);have q6b:decide ((f.b:Int)≤f.a)=false:=decide_eq_false (by omega);have q6c:decide (f.b≤f.a)=false:=decide_eq_false (by omega);clear HV hp0 hp1 hp2 hp3;go_enter Tryz.func88,Tryz.ntmps88;go_wp2_with fail;go_ret;exact RPost.of HVf.out ((Mod.refl _ _).alloc _)
 have q6:(f.b:Int)≤f.a:=(by omega);have q6b:decide ((f.b:Int)≤f.a)=true:=decide_eq_true (by omega);have q6c:decide (f.b≤f.a)=true:=decide_eq_true (by omega);by_cases hp4:1≤f.data.size;rotate_left
 ·have HVf:Hid (v=false):=q00 (by rw[HV.out];simp[hp4]);have q7:¬(1:Int)≤f.data.size:=(by omega);have q7c:decide (0 < f.data.size)=false:=decide_eq_false (by omega);have q7d:decide (1≤f.data.size)=false:=decide_eq_false (by omega);have q7e:decide ((0:Int) < f.data.size)=false:=decide_eq_false (by omega);clear HV hp0 hp1 hp2 hp3 hp4;go_enter Tryz.func88,Tryz.ntmps88;go_wp2_with fail;go_ret;exact RPost.of HVf.out ((Mod.refl _ _).alloc _)
 have q7:(1:Int)≤f.data.size:=(by omega);by_cases hp5:f.data.size≤20;rotate_left
 ·have HVf:Hid (v=false):=q00 (by rw[HV.out];simp[hp5]);have q8:¬(f.data.size:Int)≤20:=(by omega);clear HV hp0 hp1 hp2 hp3 hp4 hp5;go_enter Tryz.func88,Tryz.ntmps88;go_wp2_with fail;go_ret;exact RPost.of HVf.out ((Mod.refl _ _).alloc _)
 have q8:(f.data.size:Int)≤20:=(by omega);by_cases hp6:f.more.size=16;rotate_left
 ·have HVf:Hid (v=false):=q00 (by rw[HV.out];simp[hp6]);have q9:((f.more.size:Int)==16)=false:=(by simp;omega);clear HV hp0 hp1 hp2 hp3 hp4 hp5 hp6;go_enter Tryz.func88,Tryz.ntmps88;go_wp2_with fail;go_ret;exact RPost.of HVf.out ((Mod.refl _ _).alloc _)
 have q9:((f.more.size:Int)==16)=true:=(by simp;omega);have HVf:Hid (v=true):=q00 (by rw[HV.out];simp[hp0,hp1,hp2,hp3,hp4,hp5,hp6]);clear HV hp0 hp1 hp2 hp3 hp4 hp5 hp6;go_enter Tryz.func88,Tryz.ntmps88;go_wp2_with fail;go_ret;exact RPost.of HVf.out ((Mod.refl _ _).alloc _)
theorem zh8 (w:World) (A:Option Addr) (n c:Nat) (f:Fr) (hr:Rngs w A n f.list) (v:Bool) (hv:qa8 f=v) (hk:f.kind≠0∧f.kind≠2∧f.kind≠3∧f.kind≠8∧f.kind≠24):
  Calls Tryz.prog 88 #[q17 A n c f] w (RPost w v):=by
 have hnl:f.list= []↔n=0:=by
  have:=hr.1;constructor
  ·intro h;rw[h]at this;simpa using this.symm
  ·intro h;exact List.eq_nil_of_length_eq_zero (by omega)
 have hl0:decide (f.list= [])=decide (n=0):=decide_eq_decide.2 hnl;have HL0:=q00 hl0;clear hl0;have hn62:=hr.2.1;have HRn:=q00 (hr.new ((Mod.refl [] w).alloc (.cells (fcs A n c f) 36)));have e0:((f.kind:Int)==0)=false:=(by simp;omega);have e2:((f.kind:Int)==2)=false:=(by simp;omega);have e3:((f.kind:Int)==3)=false:=(by simp;omega);have e8:((f.kind:Int)==8)=false:=(by simp;omega);have HVf:Hid (v=false):=q00 (by rw[←hv];unfold qa8;rw[if_neg (by omega),if_neg (by omega),if_neg (by omega),if_neg (by omega)]);have e24:((f.kind:Int)==24)=false:=(by simp;omega);clear hv hr hk hnl HL0 HRn;unfold q17 fcs at *;go_enter Tryz.func88,Tryz.ntmps88;go_wp2_with fail;go_ret;exact RPost.of HVf.out ((Mod.refl _ _).alloc _)
theorem zp3 (w:World) (A:Option Addr) (n c:Nat) (f:Fr) (hr:Rngs w A n f.list) (hb:f.b < 4611686018427387904) (hd:f.data.size≤16384) (v:Bool) (hv:qa8 f=v):
  Calls Tryz.prog 88 #[q17 A n c f] w (RPost w v):=by
 by_cases h0:f.kind=0
 ·exact zh5 w A n c f hr v hv h0
 by_cases h2:f.kind=2∨f.kind=3
 ·exact zh7 w A n c f hr v hv h2
 by_cases h8:f.kind=8
 ·exact zh6 w A n c f hr hb hd v hv h8
 by_cases h24:f.kind=24
 ·exact z60 w A n c f hr hd v hv h24
 exact zh8 w A n c f hr v hv ⟨h0,by omega,by omega,h8,h24⟩
def qn3 (x y z:Nat):Nat:=if(if x < y then y else x) < z then z else(if x < y then y else x)
theorem max3_lt {x y z m:Nat} :qn3 x y z < m↔x < m∧y < m∧z < m:=by
 unfold qn3
 split <;> split <;> omega
theorem jk0 {P:Program} {w:World} (ts:Array TypeId) (t:TypeId) (x y z:Nat):(Builtin.max_ ts t #[.int .u64 (x:Nat),.int .u64 (y:Nat),.int .u64 (z:Nat)]).run P w=.ok (.int .u64 (qn3 x y z:Nat)) w:=by unfold qn3;have e:∀a b:Nat,(if(b:Int) > a then(b:Int)else a)=((if a < b then b else a:Nat):Int):=fun a b=>(by split <;> split <;> omega);have e2:=run_max_int3 (P:=P) (w:=w) ts t .u64 .u64 .u64 x y z;rw[e x y,e _ z]at e2;exact e2
attribute [go_sem high] jk0
theorem q23 {w:World} {g:Nat} {t:TypeId} {A:Option Addr} {n c:Nat} {f:Fr} (h:Blk w g t (fcs A n c f)):
  w.cell? ⟨g,0,none⟩=some (.int .u64 (f.kind:Nat))∧w.cell? ⟨g,1,none⟩=some (.int .u64 (f.a:Nat))∧w.cell? ⟨g,2,none⟩=some (.int .u64 (f.b:Nat))∧w.cell? ⟨g,3,none⟩=some (.int .u64 (f.c:Nat))∧
  w.cell? ⟨g,4,none⟩=some (.bool f.fin)∧w.cell? ⟨g,5,none⟩=some (.string f.data)∧w.cell? ⟨g,6,none⟩=some (.string f.more)∧w.cell? ⟨g,7,none⟩=some (.slice A n c):=
 ⟨h.cell 0,h.cell 1,h.cell 2,h.cell 3,h.cell 4,h.cell 5,h.cell 6,h.cell 7⟩
theorem zg3 (w:World) (A:Option Addr) (n c:Nat) (f:Fr) (h:¬(qn3 f.a f.b f.c < 4611686018427387904)):
  Calls Tryz.prog 52 #[q17 A n c f] w (RPost w false):=by
 obtain⟨M,hM⟩:∃M,qn3 f.a f.b f.c=M:=⟨_,rfl⟩;rw[hM]at h;have h2:decide (4611686018427387903 < M)=true:=decide_eq_true (by omega);have h3:decide ((4611686018427387903:Int) < M)=true:=decide_eq_true (by omega);clear h;unfold q17 fcs;go_enter Tryz.func52,Tryz.ntmps52;go_wp2_with fail;go_ret;exact RPost.of rfl ((Mod.refl _ _).alloc _)
theorem zg4 (w:World) (A:Option Addr) (n c:Nat) (f:Fr) (h:qn3 f.a f.b f.c < 4611686018427387904) (hd:¬f.data.size≤16384):
  Calls Tryz.prog 52 #[q17 A n c f] w (RPost w false):=by
 obtain⟨M,hM⟩:∃M,qn3 f.a f.b f.c=M:=⟨_,rfl⟩;rw[hM]at h;have h2:decide (4611686018427387903 < M)=false:=decide_eq_false (by omega);have h3:decide ((4611686018427387903:Int) < M)=false:=decide_eq_false (by omega);clear h;have d2:decide (16384 < f.data.size)=true:=decide_eq_true (by omega);have d3:decide ((16384:Int) < f.data.size)=true:=decide_eq_true (by omega);clear hd;unfold q17 fcs;go_enter Tryz.func52,Tryz.ntmps52;go_wp2_with fail;go_ret;exact RPost.of rfl ((Mod.refl _ _).alloc _)
theorem zg5 (w:World) (A:Option Addr) (n c:Nat) (f:Fr) (hr:Rngs w A n f.list) (h:qn3 f.a f.b f.c < 4611686018427387904) (hd:f.data.size≤16384) (hb:f.b < 4611686018427387904) (hk:q16 f.kind=none):
  Calls Tryz.prog 52 #[q17 A n c f] w (RPost w (qa8 f)):=by
 obtain⟨M,hM⟩:∃M,qn3 f.a f.b f.c=M:=⟨_,rfl⟩;rw[hM]at h;have h2:decide (4611686018427387903 < M)=false:=decide_eq_false (by omega);have h3:decide ((4611686018427387903:Int) < M)=false:=decide_eq_false (by omega);clear h;have d2:decide (16384 < f.data.size)=false:=decide_eq_false (by omega);have d3:decide ((16384:Int) < f.data.size)=false:=decide_eq_false (by omega);have hsh:=fun w=>qb7 w f.kind;have hS:shS f.kind=sh0:=(by unfold shS;rw[hk];rfl);rw[hS,hk]at hsh;have HSh:=q00 hsh;have HOwn:=q00 (fun w' (h:Rngs w' A n f.list)=>zp3 w' A n c f h hb hd _ rfl);have HR:=q00 (hr.new ((Mod.refl [] w).alloc (.cells (fcs A n c f) 36)));have HBx:=q00 (Blk.new w 36 (fcs A n c f));clear hk hd hb hr hsh hS;unfold q17 fcs at *;go_enter Tryz.func52,Tryz.ntmps52;go_wp2_with fail;refine(HSh.out _).mono ?_;rintro e w1 ⟨rfl,m1⟩;have hbx:=(m1.blk HBx.out (by simp)).alloc (.cells #[.int .i64 0,.bool false,.int .i64 0] 109);have hm2:Mod [] w (w1.alloc (.cells #[.int .i64 0,.bool false,.int .i64 0] 109)):=((((Mod.refl _ _).alloc _).trans m1 (by simp)).alloc _);have hr2:=HR.out.new (m1.alloc (.cells #[.int .i64 0,.bool false,.int .i64 0] 109));have HM2:=q00 hm2;have HR2:=q00 hr2;have hlt:=hbx.lt;obtain⟨p0,p1,p2,p3,p4,p5,p6,p7⟩:=q23 hbx;clear hm2 hr2 m1 hbx;unfold qm9 sh0;go_wp2_with fail;refine(HOwn.out _ HR2.out).mono ?_;rintro e w3 ⟨rfl,m3⟩;go_wp2_with fail;go_ret;exact RPost.of rfl (HM2.out.trans m3 (by simp))
theorem qs3 {k:Nat} {s:Shp} (h:q16 k=some s):s.x≤8:=by
 unfold q16 at h
 repeat' split at h
 all_goals first | (cases h;done) | (cases h;simp)
theorem jp2 {w2 w':World} {g h:Nat} {t u:TypeId} {A:Option Addr} {n c:Nat} {f:Fr} {s:Shp} (hb:Blk w2 g t (fcs A n c f)) (hs:Blk w2 h u #[.int .i64 (s.n:Nat),.bool s.t,.int .i64 (s.x:Nat)]) (hm:Mod [] w2 w'):(w'.cell? ⟨g,0,none⟩=some (.int .u64 (f.kind:Nat))∧w'.cell? ⟨g,1,none⟩=some (.int .u64 (f.a:Nat))∧w'.cell? ⟨g,2,none⟩=some (.int .u64 (f.b:Nat))∧w'.cell? ⟨g,3,none⟩=some (.int .u64 (f.c:Nat))∧w'.cell? ⟨g,4,none⟩=some (.bool f.fin)∧w'.cell? ⟨g,5,none⟩=some (.string f.data)∧w'.cell? ⟨g,6,none⟩=some (.string f.more)∧w'.cell? ⟨g,7,none⟩=some (.slice A n c)∧w'.cell? ⟨h,0,none⟩=some (.int .i64 (s.n:Nat))∧w'.cell? ⟨h,1,none⟩=some (.bool s.t)∧w'.cell? ⟨h,2,none⟩=some (.int .i64 (s.x:Nat)))∧Mod [] w2 w':=by obtain⟨p0,p1,p2,p3,p4,p5,p6,p7⟩:=q23 (hm.blk hb (by simp));have hs2:=hm.blk hs (by simp);exact⟨⟨p0,p1,p2,p3,p4,p5,p6,p7,hs2.cell 0,hs2.cell 1,hs2.cell 2⟩,hm⟩
theorem zg6 (w:World) (A:Option Addr) (n c:Nat) (f:Fr) (s:Shp) (hr:Rngs w A n f.list) (h:qn3 f.a f.b f.c < 4611686018427387904) (hd:f.data.size≤16384) (hk:q16 f.kind=some s) (hc:qd s f=false):
  Calls Tryz.prog 52 #[q17 A n c f] w (RPost w false):=by
 obtain⟨M,hM⟩:∃M,qn3 f.a f.b f.c=M:=⟨_,rfl⟩;rw[hM]at h;have h2:decide (4611686018427387903 < M)=false:=decide_eq_false (by omega);have h3:decide ((4611686018427387903:Int) < M)=false:=decide_eq_false (by omega);have d2:decide (16384 < f.data.size)=false:=decide_eq_false (by omega);have d3:decide ((16384:Int) < f.data.size)=false:=decide_eq_false (by omega);have hsh:=fun w=>qb7 w f.kind;have hS:shS f.kind=s:=(by unfold shS;rw[hk];rfl);rw[hS,hk]at hsh;have hsn:=(q77 hk).2.1;have hsx:=qs3 hk;have HSh:=q00 hsh;have HClr:=q00 (fun w' (_:Rngs w' A n f.list)=>qt5 w' s hsn hsx A n c f);have HSame:=q00 (fun w' (h:Rngs w' A n f.list)=>ql7 w' A none n 0 c 0 (j47 s f) fr0 h (Rngs.nil _) _ rfl);have HR:=q00 (hr.new ((Mod.refl [] w).alloc (.cells (fcs A n c f) 36)));have HBx:=q00 (Blk.new w 36 (fcs A n c f));rw[qq1,hc]at HSame;clear h hc hk hr hsh hS;unfold q17 fcs at *;unfold qm9 at *;go_enter Tryz.func52,Tryz.ntmps52;go_wp2_with fail;refine(HSh.out _).mono ?_;rintro e w1 ⟨rfl,m1⟩;have hbx:=(m1.blk HBx.out (by simp)).alloc (.cells #[.int .i64 (s.n:Nat),.bool s.t,.int .i64 (s.x:Nat)] 109);have hsb:Blk (w1.alloc (.cells #[.int .i64 (s.n:Nat),.bool s.t,.int .i64 (s.x:Nat)] 109)) w1.heap.size 109 #[.int .i64 (s.n:Nat),.bool s.t,.int .i64 (s.x:Nat)]:=Blk.new _ _ _;have hm2:Mod [] w (w1.alloc (.cells #[.int .i64 (s.n:Nat),.bool s.t,.int .i64 (s.x:Nat)] 109)):=((((Mod.refl _ _).alloc _).trans m1 (by simp)).alloc _);have hr2:=HR.out.new (m1.alloc (.cells #[.int .i64 (s.n:Nat),.bool s.t,.int .i64 (s.x:Nat)] 109));have HM2:=q00 hm2;have HR2:=q00 hr2;have HB2:=q00 hbx;have HS2:=q00 hsb;have hlt:=hbx.lt;have hslt:=hsb.lt;clear hm2 hr2 m1 hbx hsb HSh HR HBx;obtain⟨⟨p0,p1,p2,p3,p4,p5,p6,p7,s0,s1,s2⟩,_⟩:=jp2 HB2.out HS2.out (Mod.refl [] _);go_wp2_with fail;refine(HClr.out _ HR2.out).mono ?_;rintro e w3 ⟨rfl,m3⟩;go_wp2_with fail;refine(HSame.out _ (HR2.out.new m3)).mono ?_;rintro e w4 ⟨rfl,m4⟩;replace m4:=m3.trans m4 (by simp);clear p0 p1 p2 p3 p4 p5 p6 p7 s0 s1 s2;obtain⟨⟨p0,p1,p2,p3,p4,p5,p6,p7,s0,s1,s2⟩,_⟩:=jp2 HB2.out HS2.out m4;go_wp2_with fail;go_ret;exact RPost.of rfl (HM2.out.trans m4 (by simp))
theorem zg7 (w:World) (A:Option Addr) (n c:Nat) (f:Fr) (s:Shp) (hr:Rngs w A n f.list) (h:qn3 f.a f.b f.c < 4611686018427387904) (hd:f.data.size≤16384) (hk:q16 f.kind=some s) (hc:qd s f=true) (hx:s.x≠0∧f.data.size≠s.x):
  Calls Tryz.prog 52 #[q17 A n c f] w (RPost w false):=by
 have x0:((s.x:Int)==0)=false:=(by simp;omega);have x1:((f.data.size:Int)==s.x)=false:=(by simp;omega);clear hx;obtain⟨M,hM⟩:∃M,qn3 f.a f.b f.c=M:=⟨_,rfl⟩;rw[hM]at h;have h2:decide (4611686018427387903 < M)=false:=decide_eq_false (by omega);have h3:decide ((4611686018427387903:Int) < M)=false:=decide_eq_false (by omega);have d2:decide (16384 < f.data.size)=false:=decide_eq_false (by omega);have d3:decide ((16384:Int) < f.data.size)=false:=decide_eq_false (by omega);have hsh:=fun w=>qb7 w f.kind;have hS:shS f.kind=s:=(by unfold shS;rw[hk];rfl);rw[hS,hk]at hsh;have hsn:=(q77 hk).2.1;have hsx:=qs3 hk;have HSh:=q00 hsh;have HClr:=q00 (fun w' (_:Rngs w' A n f.list)=>qt5 w' s hsn hsx A n c f);have HSame:=q00 (fun w' (h:Rngs w' A n f.list)=>ql7 w' A none n 0 c 0 (j47 s f) fr0 h (Rngs.nil _) _ rfl);have HR:=q00 (hr.new ((Mod.refl [] w).alloc (.cells (fcs A n c f) 36)));have HBx:=q00 (Blk.new w 36 (fcs A n c f));rw[qq1,hc]at HSame;clear h hc hk hr hsh hS;unfold q17 fcs at *;unfold qm9 at *;go_enter Tryz.func52,Tryz.ntmps52;go_wp2_with fail;refine(HSh.out _).mono ?_;rintro e w1 ⟨rfl,m1⟩;have hbx:=(m1.blk HBx.out (by simp)).alloc (.cells #[.int .i64 (s.n:Nat),.bool s.t,.int .i64 (s.x:Nat)] 109);have hsb:Blk (w1.alloc (.cells #[.int .i64 (s.n:Nat),.bool s.t,.int .i64 (s.x:Nat)] 109)) w1.heap.size 109 #[.int .i64 (s.n:Nat),.bool s.t,.int .i64 (s.x:Nat)]:=Blk.new _ _ _;have hm2:Mod [] w (w1.alloc (.cells #[.int .i64 (s.n:Nat),.bool s.t,.int .i64 (s.x:Nat)] 109)):=((((Mod.refl _ _).alloc _).trans m1 (by simp)).alloc _);have hr2:=HR.out.new (m1.alloc (.cells #[.int .i64 (s.n:Nat),.bool s.t,.int .i64 (s.x:Nat)] 109));have HM2:=q00 hm2;have HR2:=q00 hr2;have HB2:=q00 hbx;have HS2:=q00 hsb;have hlt:=hbx.lt;have hslt:=hsb.lt;clear hm2 hr2 m1 hbx hsb HSh HR HBx;obtain⟨⟨p0,p1,p2,p3,p4,p5,p6,p7,s0,s1,s2⟩,_⟩:=jp2 HB2.out HS2.out (Mod.refl [] _);go_wp2_with fail;refine(HClr.out _ HR2.out).mono ?_;rintro e w3 ⟨rfl,m3⟩;go_wp2_with fail;refine(HSame.out _ (HR2.out.new m3)).mono ?_;rintro e w4 ⟨rfl,m4⟩;replace m4:=m3.trans m4 (by simp);clear p0 p1 p2 p3 p4 p5 p6 p7 s0 s1 s2;obtain⟨⟨p0,p1,p2,p3,p4,p5,p6,p7,s0,s1,s2⟩,_⟩:=jp2 HB2.out HS2.out m4;go_wp2_with fail;go_ret;exact RPost.of rfl (HM2.out.trans m4 (by simp))
theorem zg8 (w:World) (A:Option Addr) (n c:Nat) (f:Fr) (s:Shp) (hr:Rngs w A n f.list) (h:qn3 f.a f.b f.c < 4611686018427387904) (hd:f.data.size≤16384) (hk:q16 f.kind=some s) (ha:f.a < 4611686018427387904) (hc:qd s f=true) (hx:s.x=0):
  Calls Tryz.prog 52 #[q17 A n c f] w (RPost w (qm4 f)):=by
 have x0:((s.x:Int)==0)=true:=(by simp;omega);clear hx;obtain⟨M,hM⟩:∃M,qn3 f.a f.b f.c=M:=⟨_,rfl⟩;rw[hM]at h;have h2:decide (4611686018427387903 < M)=false:=decide_eq_false (by omega);have h3:decide ((4611686018427387903:Int) < M)=false:=decide_eq_false (by omega);have d2:decide (16384 < f.data.size)=false:=decide_eq_false (by omega);have d3:decide ((16384:Int) < f.data.size)=false:=decide_eq_false (by omega);have hsh:=fun w=>qb7 w f.kind;have hS:shS f.kind=s:=(by unfold shS;rw[hk];rfl);rw[hS,hk]at hsh;have hsn:=(q77 hk).2.1;have hsx:=qs3 hk;have HSh:=q00 hsh;have HClr:=q00 (fun w' (_:Rngs w' A n f.list)=>qt5 w' s hsn hsx A n c f);have HSame:=q00 (fun w' (h:Rngs w' A n f.list)=>ql7 w' A none n 0 c 0 (j47 s f) fr0 h (Rngs.nil _) _ rfl);have HLim:=q00 (fun w' (_:Rngs w' A n f.list)=>ja w' A n c f ha hd _ rfl);have HR:=q00 (hr.new ((Mod.refl [] w).alloc (.cells (fcs A n c f) 36)));have HBx:=q00 (Blk.new w 36 (fcs A n c f));rw[qq1,hc]at HSame;clear h hc hk hr hsh hS;unfold q17 fcs at *;unfold qm9 at *;go_enter Tryz.func52,Tryz.ntmps52;go_wp2_with fail;refine(HSh.out _).mono ?_;rintro e w1 ⟨rfl,m1⟩;have hbx:=(m1.blk HBx.out (by simp)).alloc (.cells #[.int .i64 (s.n:Nat),.bool s.t,.int .i64 (s.x:Nat)] 109);have hsb:Blk (w1.alloc (.cells #[.int .i64 (s.n:Nat),.bool s.t,.int .i64 (s.x:Nat)] 109)) w1.heap.size 109 #[.int .i64 (s.n:Nat),.bool s.t,.int .i64 (s.x:Nat)]:=Blk.new _ _ _;have hm2:Mod [] w (w1.alloc (.cells #[.int .i64 (s.n:Nat),.bool s.t,.int .i64 (s.x:Nat)] 109)):=((((Mod.refl _ _).alloc _).trans m1 (by simp)).alloc _);have hr2:=HR.out.new (m1.alloc (.cells #[.int .i64 (s.n:Nat),.bool s.t,.int .i64 (s.x:Nat)] 109));have HM2:=q00 hm2;have HR2:=q00 hr2;have HB2:=q00 hbx;have HS2:=q00 hsb;have hlt:=hbx.lt;have hslt:=hsb.lt;clear hm2 hr2 m1 hbx hsb HSh HR HBx;obtain⟨⟨p0,p1,p2,p3,p4,p5,p6,p7,s0,s1,s2⟩,_⟩:=jp2 HB2.out HS2.out (Mod.refl [] _);go_wp2_with fail;refine(HClr.out _ HR2.out).mono ?_;rintro e w3 ⟨rfl,m3⟩;go_wp2_with fail;refine(HSame.out _ (HR2.out.new m3)).mono ?_;rintro e w4 ⟨rfl,m4⟩;replace m4:=m3.trans m4 (by simp);clear p0 p1 p2 p3 p4 p5 p6 p7 s0 s1 s2;obtain⟨⟨p0,p1,p2,p3,p4,p5,p6,p7,s0,s1,s2⟩,_⟩:=jp2 HB2.out HS2.out m4;go_wp2_with fail;refine(HLim.out _ (HR2.out.new m4)).mono ?_;rintro e w5 ⟨rfl,m5⟩;go_wp2_with fail;go_ret;exact RPost.of rfl (HM2.out.trans (m4.trans m5 (by simp)) (by simp))
theorem zg9 (w:World) (A:Option Addr) (n c:Nat) (f:Fr) (s:Shp) (hr:Rngs w A n f.list) (h:qn3 f.a f.b f.c < 4611686018427387904) (hd:f.data.size≤16384) (hk:q16 f.kind=some s) (ha:f.a < 4611686018427387904) (hc:qd s f=true) (hx:s.x≠0) (hx2:f.data.size=s.x):
  Calls Tryz.prog 52 #[q17 A n c f] w (RPost w (qm4 f)):=by
 have x0:((s.x:Int)==0)=false:=(by simp;omega);have x1:((f.data.size:Int)==s.x)=true:=(by simp;omega);clear hx hx2;obtain⟨M,hM⟩:∃M,qn3 f.a f.b f.c=M:=⟨_,rfl⟩;rw[hM]at h;have h2:decide (4611686018427387903 < M)=false:=decide_eq_false (by omega);have h3:decide ((4611686018427387903:Int) < M)=false:=decide_eq_false (by omega);have d2:decide (16384 < f.data.size)=false:=decide_eq_false (by omega);have d3:decide ((16384:Int) < f.data.size)=false:=decide_eq_false (by omega);have hsh:=fun w=>qb7 w f.kind;have hS:shS f.kind=s:=(by unfold shS;rw[hk];rfl);rw[hS,hk]at hsh;have hsn:=(q77 hk).2.1;have hsx:=qs3 hk;have HSh:=q00 hsh;have HClr:=q00 (fun w' (_:Rngs w' A n f.list)=>qt5 w' s hsn hsx A n c f);have HSame:=q00 (fun w' (h:Rngs w' A n f.list)=>ql7 w' A none n 0 c 0 (j47 s f) fr0 h (Rngs.nil _) _ rfl);have HLim:=q00 (fun w' (_:Rngs w' A n f.list)=>ja w' A n c f ha hd _ rfl);have HR:=q00 (hr.new ((Mod.refl [] w).alloc (.cells (fcs A n c f) 36)));have HBx:=q00 (Blk.new w 36 (fcs A n c f));rw[qq1,hc]at HSame;clear h hc hk hr hsh hS;unfold q17 fcs at *;unfold qm9 at *;go_enter Tryz.func52,Tryz.ntmps52;go_wp2_with fail;refine(HSh.out _).mono ?_;rintro e w1 ⟨rfl,m1⟩;have hbx:=(m1.blk HBx.out (by simp)).alloc (.cells #[.int .i64 (s.n:Nat),.bool s.t,.int .i64 (s.x:Nat)] 109);have hsb:Blk (w1.alloc (.cells #[.int .i64 (s.n:Nat),.bool s.t,.int .i64 (s.x:Nat)] 109)) w1.heap.size 109 #[.int .i64 (s.n:Nat),.bool s.t,.int .i64 (s.x:Nat)]:=Blk.new _ _ _;have hm2:Mod [] w (w1.alloc (.cells #[.int .i64 (s.n:Nat),.bool s.t,.int .i64 (s.x:Nat)] 109)):=((((Mod.refl _ _).alloc _).trans m1 (by simp)).alloc _);have hr2:=HR.out.new (m1.alloc (.cells #[.int .i64 (s.n:Nat),.bool s.t,.int .i64 (s.x:Nat)] 109));have HM2:=q00 hm2;have HR2:=q00 hr2;have HB2:=q00 hbx;have HS2:=q00 hsb;have hlt:=hbx.lt;have hslt:=hsb.lt;clear hm2 hr2 m1 hbx hsb HSh HR HBx;obtain⟨⟨p0,p1,p2,p3,p4,p5,p6,p7,s0,s1,s2⟩,_⟩:=jp2 HB2.out HS2.out (Mod.refl [] _);go_wp2_with fail;refine(HClr.out _ HR2.out).mono ?_;rintro e w3 ⟨rfl,m3⟩;go_wp2_with fail;refine(HSame.out _ (HR2.out.new m3)).mono ?_;rintro e w4 ⟨rfl,m4⟩;replace m4:=m3.trans m4 (by simp);clear p0 p1 p2 p3 p4 p5 p6 p7 s0 s1 s2;obtain⟨⟨p0,p1,p2,p3,p4,p5,p6,p7,s0,s1,s2⟩,_⟩:=jp2 HB2.out HS2.out m4;go_wp2_with fail;refine(HLim.out _ (HR2.out.new m4)).mono ?_;rintro e w5 ⟨rfl,m5⟩;go_wp2_with fail;go_ret;exact RPost.of rfl (HM2.out.trans (m4.trans m5 (by simp)) (by simp))
theorem qu7 (w:World) (A:Option Addr) (n c:Nat) (f:Fr) (hr:Rngs w A n f.list) (v:Bool) (hv:q31 f=v):
  Calls Tryz.prog 52 #[q17 A n c f] w (RPost w v):=by
 subst hv;by_cases h:qn3 f.a f.b f.c < 4611686018427387904;rotate_left
 ·have e:q31 f=false:=by
   cases hb:q31 f
   ·rfl
   ·obtain⟨h1,h2,h3,_⟩:=q55 hb;exact absurd (max3_lt.2 ⟨h1,h2,h3⟩) h
  rw[e];exact zg3 w A n c f h
 by_cases hd:f.data.size≤16384;rotate_left
 ·have e:q31 f=false:=by
   cases hb:q31 f
   ·rfl
   ·exact absurd (q55 hb).2.2.2.1 hd
  rw[e];exact zg4 w A n c f h hd
 obtain⟨h1,h2,h3⟩:=max3_lt.1 h;have hf:q31 f=match q16 f.kind with
  | none=>qa8 f
  | some s=>qd s f && (decide (s.x=0) || decide (f.data.size=s.x)) && qm4 f:=by
  unfold q31;rw[decide_eq_true h1,decide_eq_true h2,decide_eq_true h3,decide_eq_true hd];rfl
 rw[hf];cases hk:q16 f.kind with
 | none=>exact zg5 w A n c f hr h hd h2 hk
 | some s=>
  simp only;cases hc:qd s f with
  | false=>exact zg6 w A n c f s hr h hd hk hc
  | true=>
   by_cases hx:s.x=0
   ·rw[decide_eq_true hx];exact zg8 w A n c f s hr h hd hk h1 hc hx
   ·rw[decide_eq_false hx];by_cases hx2:f.data.size=s.x
    ·rw[decide_eq_true hx2];exact zg9 w A n c f s hr h hd hk h1 hc hx hx2
    ·rw[decide_eq_false hx2];exact zg7 w A n c f s hr h hd hk hc ⟨hx,hx2⟩
end Go.Proofs.YtlfjhgamlkbofaaGreatDoor
namespace Go.Proofs.YtlfjhgamlkbofaaGreatDoor
open Go.RowKit
theorem frS {w2 w':World} {g:Nat} {t:TypeId} {A:Option Addr} {n c:Nat} {f:Fr} (hb:Blk w2 g t (fcs A n c f)) (hm:Mod [] w2 w'):(w'.cell? ⟨g,0,none⟩=some (.int .u64 (f.kind:Nat))∧w'.cell? ⟨g,1,none⟩=some (.int .u64 (f.a:Nat))∧w'.cell? ⟨g,2,none⟩=some (.int .u64 (f.b:Nat))∧w'.cell? ⟨g,3,none⟩=some (.int .u64 (f.c:Nat))∧w'.cell? ⟨g,4,none⟩=some (.bool f.fin)∧w'.cell? ⟨g,5,none⟩=some (.string f.data)∧w'.cell? ⟨g,6,none⟩=some (.string f.more)∧w'.cell? ⟨g,7,none⟩=some (.slice A n c))∧Mod [] w2 w':=
 ⟨q23 (hm.blk hb (by simp)),hm⟩
theorem qm5 {P:Program} {fn:Nat} {args:Array Value} {v:Value} {w2 w':World} {g:Nat} {t:TypeId} {A:Option Addr} {n c:Nat} {f:Fr} (hb:Blk w2 g t (fcs A n c f))
  (hc:∀w',Calls P fn args w' fun e w''=>e=.returned v∧Mod [] w' w'') (hS:(w'.cell? ⟨g,0,none⟩=some (.int .u64 (f.kind:Nat))∧w'.cell? ⟨g,1,none⟩=some (.int .u64 (f.a:Nat))∧w'.cell? ⟨g,2,none⟩=some (.int .u64 (f.b:Nat))∧w'.cell? ⟨g,3,none⟩=some (.int .u64 (f.c:Nat))∧w'.cell? ⟨g,4,none⟩=some (.bool f.fin)∧w'.cell? ⟨g,5,none⟩=some (.string f.data)∧w'.cell? ⟨g,6,none⟩=some (.string f.more)∧w'.cell? ⟨g,7,none⟩=some (.slice A n c))∧Mod [] w2 w'):
  Calls P fn args w' fun e w'=>e=.returned v∧((w'.cell? ⟨g,0,none⟩=some (.int .u64 (f.kind:Nat))∧w'.cell? ⟨g,1,none⟩=some (.int .u64 (f.a:Nat))∧w'.cell? ⟨g,2,none⟩=some (.int .u64 (f.b:Nat))∧w'.cell? ⟨g,3,none⟩=some (.int .u64 (f.c:Nat))∧w'.cell? ⟨g,4,none⟩=some (.bool f.fin)∧w'.cell? ⟨g,5,none⟩=some (.string f.data)∧w'.cell? ⟨g,6,none⟩=some (.string f.more)∧w'.cell? ⟨g,7,none⟩=some (.slice A n c))∧Mod [] w2 w'):=by
 refine(hc w').mono ?_;rintro e w'' ⟨rfl,m⟩;exact⟨rfl,frS hb (hS.2.trans m (by simp))⟩
theorem qt0 {B:ByteArray} {l:List UInt8} (h:B.data.toList=l):Value.string B=str l:=by subst h;unfold str;rw[q36]
theorem q20 (a b:ByteArray):(a++ b).data.toList=a.data.toList++ b.data.toList:=by simp
theorem jk4 (w:World) (A:Option Addr) (n c:Nat) (f:Fr) (hd:f.data.size≤16384) (hb:f.b=0) (hfn:f.fin=false):
  Calls Tryz.prog 186 #[q17 A n c f] w fun e w'=>e=.returned (str (q38 f))∧Mod [] w w':=by
 have HBx:=q00 (Blk.new w 36 (fcs A n c f));obtain⟨K,hK⟩:∃K,q50 10=K:=⟨_,rfl⟩;obtain⟨VA,hA⟩:∃K,q50 f.a=K:=⟨_,rfl⟩;obtain⟨T,hT⟩:∃K,q50 f.data.size++ f.data=K:=⟨_,rfl⟩;have s1:K.size≤8:=(by rw[←hK];exact q10 _);have s2:VA.size≤8:=(by rw[←hA];exact q10 _);have s3:T.size≤16392:=(by rw[←hT,ByteArray.size_append];have:=q10 f.data.size;omega);have p1:=fun w=>q18 w 10;have p2:=fun w=>q18 w f.a;have p3:=fun w=>qo7 w f.data (by omega);rw[hK]at p1;rw[hA]at p2;rw[hT]at p3
 push_cast at p1
 have hfin:(K++ VA++ ⟨#[]⟩++ T).data.toList=q38 f:=(by rw[q20,q20,q20,←hK,←hA,←hT,q20];unfold q38 qf6;rw[if_pos hb,if_pos hb,hfn];simp[q60]);have q2:(K++ VA:ByteArray).size+(⟨#[]⟩:ByteArray).size≤9223372036854775807:=(by rw[ByteArray.size_append];show K.size+VA.size+0≤_;omega);have q3:(K++ VA++ ⟨#[]⟩:ByteArray).size+T.size≤9223372036854775807:=(by rw[ByteArray.size_append,ByteArray.size_append];show K.size+VA.size+0+T.size≤_;omega);have q4:(K++ VA:ByteArray).size+T.size≤9223372036854775807:=(by rw[ByteArray.size_append];omega);have q5:K.size+VA.size+T.size≤9223372036854775807:=(by omega);have b0:((f.b:Int) !=0)=false:=(by simp;omega);have HF:=q00 hfin;have pp:∀(x:Int) (v:ByteArray),((x=10∧v=K)∨(x=(f.a:Nat)∧v=VA))→∀w,Calls Tryz.prog 157 #[.int .u64 x] w fun e w'=>e=.returned (.string v)∧Mod [] w w':=by
  rintro x v (⟨rfl,rfl⟩ | ⟨rfl,rfl⟩) w
  ·exact p1 w
  ·exact p2 w
 have PP:=q00 pp;have P3:=q00 p3;have q1:K.size+VA.size≤9223372036854775807:=(by omega);have n1:¬9223372036854775807 < K.size+VA.size:=(by omega);have n2:¬9223372036854775807 < K.size+VA.size+T.size:=(by omega);obtain⟨R,hR⟩:∃R,q38 f=R:=⟨_,rfl⟩;rw[hR]at HF ⊢;clear hfin hK hA hT pp p1 p2 p3 hb;clear hR;unfold q17 fcs at *;obtain⟨fk,fa,fb,fc,ff,fd,fm,fl⟩:=f;dsimp only at *;subst hfn;go_enter Tryz.func186,Tryz.ntmps186;go_wp2_with fail;obtain⟨w2,hw2⟩:∃w2,w.alloc (.cells #[.int .u64 (fk:Nat),.int .u64 (fa:Nat),.int .u64 (fb:Nat),.int .u64 (fc:Nat),.bool false,.string fd,.string fm,.slice A n c] 36)=w2:=⟨_,rfl⟩;obtain⟨g,hg⟩:∃g,w.heap.size=g:=⟨_,rfl⟩;have hm:Mod [] w w2:=(by rw[←hw2];exact(Mod.refl _ _).alloc _);have HM2:=q00 hm;rw[hw2,hg]at HBx;rw[hw2];simp only[hg];have HB2:=HBx;have hlt:=HB2.out.lt;clear hw2 hg hm HBx;have HS:=q00 (frS (f:=⟨fk,fa,fb,fc,false,fd,fm,fl⟩) HB2.out (Mod.refl [] _).drew);go_region_held3 (fun w'=>(w'.cell? ⟨g,0,none⟩=some (.int .u64 (fk:Nat))∧w'.cell? ⟨g,1,none⟩=some (.int .u64 (fa:Nat))∧w'.cell? ⟨g,2,none⟩=some (.int .u64 (fb:Nat))∧w'.cell? ⟨g,3,none⟩=some (.int .u64 (fc:Nat))∧w'.cell? ⟨g,4,none⟩=some (.bool false)∧w'.cell? ⟨g,5,none⟩=some (.string fd)∧w'.cell? ⟨g,6,none⟩=some (.string fm)∧w'.cell? ⟨g,7,none⟩=some (.slice A n c))∧Mod [] w2 w')
  (first | exact HS.out | assumption)
  (first
   | (go_at_call 158;refine(qm5 (f:=⟨fk,fa,fb,fc,false,fd,fm,fl⟩) HB2.out P3.out (by assumption)).mono ?_;rintro e w' ⟨rfl,hS'⟩)
   | (go_at_call 157;refine(qm5 (f:=⟨fk,fa,fb,fc,false,fd,fm,fl⟩) HB2.out (PP.out _ _ (by first | exact Or.inl ⟨rfl,rfl⟩ | exact Or.inr ⟨rfl,rfl⟩)) (by assumption)).mono ?_;rintro e w' ⟨rfl,hS'⟩))
 all_goals
  go_wp2_with fail
  go_ret
  exact⟨congrArg _ (qt0 HF.out),HM2.out.trans hS'.2 (by simp)⟩
theorem jk6 (w:World) (A:Option Addr) (n c:Nat) (f:Fr) (hd:f.data.size≤16384) (hb:f.b≠0) (hfn:f.fin=false):
  Calls Tryz.prog 186 #[q17 A n c f] w fun e w'=>e=.returned (str (q38 f))∧Mod [] w w':=by
 have HBx:=q00 (Blk.new w 36 (fcs A n c f));obtain⟨K,hK⟩:∃K,q50 14=K:=⟨_,rfl⟩;obtain⟨VA,hA⟩:∃K,q50 f.a=K:=⟨_,rfl⟩;obtain⟨T,hT⟩:∃K,q50 f.data.size++ f.data=K:=⟨_,rfl⟩;have s1:K.size≤8:=(by rw[←hK];exact q10 _);have s2:VA.size≤8:=(by rw[←hA];exact q10 _);have s3:T.size≤16392:=(by rw[←hT,ByteArray.size_append];have:=q10 f.data.size;omega);have p1:=fun w=>q18 w 14;have p2:=fun w=>q18 w f.a;have p3:=fun w=>qo7 w f.data (by omega);rw[hK]at p1;rw[hA]at p2;rw[hT]at p3
 push_cast at p1
 obtain⟨VB,hB⟩:∃K,q50 f.b=K:=⟨_,rfl⟩;have p4:=fun w=>q18 w f.b;have s4:VB.size≤8:=(by rw[←hB];exact q10 _);rw[hB]at p4;have P4:=q00 p4;have hfin:(K++ VA++ VB++ T).data.toList=q38 f:=(by rw[q20,q20,q20,←hK,←hA,←hT,←hB,q20];unfold q38 qf6;rw[if_neg hb,if_neg hb,hfn];simp[q60]);have q2:(K++ VA:ByteArray).size+VB.size≤9223372036854775807:=(by rw[ByteArray.size_append];omega);have q3:(K++ VA++ VB:ByteArray).size+T.size≤9223372036854775807:=(by rw[ByteArray.size_append,ByteArray.size_append];omega);have q4:K.size+VA.size+VB.size≤9223372036854775807:=(by omega);have q5:K.size+VA.size+VB.size+T.size≤9223372036854775807:=(by omega);have b0:((f.b:Int) !=0)=true:=(by simp;omega);have HF:=q00 hfin;have pp:∀(x:Int) (v:ByteArray),((x=14∧v=K)∨(x=(f.a:Nat)∧v=VA))→∀w,Calls Tryz.prog 157 #[.int .u64 x] w fun e w'=>e=.returned (.string v)∧Mod [] w w':=by
  rintro x v (⟨rfl,rfl⟩ | ⟨rfl,rfl⟩) w
  ·exact p1 w
  ·exact p2 w
 have PP:=q00 pp;have P3:=q00 p3;have q1:K.size+VA.size≤9223372036854775807:=(by omega);have n1:¬9223372036854775807 < K.size+VA.size:=(by omega);have n2:¬9223372036854775807 < K.size+VA.size+VB.size:=(by omega);have n3:¬9223372036854775807 < K.size+VA.size+VB.size+T.size:=(by omega);obtain⟨R,hR⟩:∃R,q38 f=R:=⟨_,rfl⟩;rw[hR]at HF ⊢;clear hfin hK hA hT hB pp p1 p2 p3 p4 hb;clear hR;unfold q17 fcs at *;obtain⟨fk,fa,fb,fc,ff,fd,fm,fl⟩:=f;dsimp only at *;subst hfn;go_enter Tryz.func186,Tryz.ntmps186;go_wp2_with fail;refine(P4.out _).mono ?_;rintro e w2 ⟨rfl,m2⟩;have hb2:=m2.blk HBx.out (by simp);have HM2:=q00 (((Mod.refl [] w).alloc (.cells #[.int .u64 (fk:Nat),.int .u64 (fa:Nat),.int .u64 (fb:Nat),.int .u64 (fc:Nat),.bool false,.string fd,.string fm,.slice A n c] 36)).trans m2 (by simp));have HB2:=q00 hb2;have p4':w2.cell? ⟨w.heap.size,4,none⟩=some (.bool false):=hb2.cell 4;have hlt:=hb2.lt;clear hb2 m2 HBx;obtain⟨g,hg⟩:∃g,w.heap.size=g:=⟨_,rfl⟩;rw[hg]at HB2 p4' hlt;simp only[hg];clear hg;go_wp2_with fail;clear p4';have HS:=q00 (frS (f:=⟨fk,fa,fb,fc,false,fd,fm,fl⟩) HB2.out (Mod.refl [] _).drew);go_region_held3 (fun w'=>(w'.cell? ⟨g,0,none⟩=some (.int .u64 (fk:Nat))∧w'.cell? ⟨g,1,none⟩=some (.int .u64 (fa:Nat))∧w'.cell? ⟨g,2,none⟩=some (.int .u64 (fb:Nat))∧w'.cell? ⟨g,3,none⟩=some (.int .u64 (fc:Nat))∧w'.cell? ⟨g,4,none⟩=some (.bool false)∧w'.cell? ⟨g,5,none⟩=some (.string fd)∧w'.cell? ⟨g,6,none⟩=some (.string fm)∧w'.cell? ⟨g,7,none⟩=some (.slice A n c))∧Mod [] w2 w')
  (first | exact HS.out | assumption)
  (first
   | (go_at_call 158;refine(qm5 (f:=⟨fk,fa,fb,fc,false,fd,fm,fl⟩) HB2.out P3.out (by assumption)).mono ?_;rintro e w' ⟨rfl,hS'⟩)
   | (go_at_call 157;refine(qm5 (f:=⟨fk,fa,fb,fc,false,fd,fm,fl⟩) HB2.out (PP.out _ _ (by first | exact Or.inl ⟨rfl,rfl⟩ | exact Or.inr ⟨rfl,rfl⟩)) (by assumption)).mono ?_;rintro e w' ⟨rfl,hS'⟩))
 all_goals
  go_wp2_with fail
  go_ret
  exact⟨congrArg _ (qt0 HF.out),HM2.out.trans hS'.2 (by simp)⟩
theorem jk5 (w:World) (A:Option Addr) (n c:Nat) (f:Fr) (hd:f.data.size≤16384) (hb:f.b=0) (hfn:f.fin=true):
  Calls Tryz.prog 186 #[q17 A n c f] w fun e w'=>e=.returned (str (q38 f))∧Mod [] w w':=by
 have HBx:=q00 (Blk.new w 36 (fcs A n c f));obtain⟨K,hK⟩:∃K,q50 11=K:=⟨_,rfl⟩;obtain⟨VA,hA⟩:∃K,q50 f.a=K:=⟨_,rfl⟩;obtain⟨T,hT⟩:∃K,q50 f.data.size++ f.data=K:=⟨_,rfl⟩;have s1:K.size≤8:=(by rw[←hK];exact q10 _);have s2:VA.size≤8:=(by rw[←hA];exact q10 _);have s3:T.size≤16392:=(by rw[←hT,ByteArray.size_append];have:=q10 f.data.size;omega);have p1:=fun w=>q18 w 11;have p2:=fun w=>q18 w f.a;have p3:=fun w=>qo7 w f.data (by omega);rw[hK]at p1;rw[hA]at p2;rw[hT]at p3
 push_cast at p1
 have hfin:(K++ VA++ ⟨#[]⟩++ T).data.toList=q38 f:=(by rw[q20,q20,q20,←hK,←hA,←hT,q20];unfold q38 qf6;rw[if_pos hb,if_pos hb,hfn];simp[q60]);have q2:(K++ VA:ByteArray).size+(⟨#[]⟩:ByteArray).size≤9223372036854775807:=(by rw[ByteArray.size_append];show K.size+VA.size+0≤_;omega);have q3:(K++ VA++ ⟨#[]⟩:ByteArray).size+T.size≤9223372036854775807:=(by rw[ByteArray.size_append,ByteArray.size_append];show K.size+VA.size+0+T.size≤_;omega);have q4:(K++ VA:ByteArray).size+T.size≤9223372036854775807:=(by rw[ByteArray.size_append];omega);have q5:K.size+VA.size+T.size≤9223372036854775807:=(by omega);have b0:((f.b:Int) !=0)=false:=(by simp;omega);have HF:=q00 hfin;have pp:∀(x:Int) (v:ByteArray),((x=11∧v=K)∨(x=(f.a:Nat)∧v=VA))→∀w,Calls Tryz.prog 157 #[.int .u64 x] w fun e w'=>e=.returned (.string v)∧Mod [] w w':=by
  rintro x v (⟨rfl,rfl⟩ | ⟨rfl,rfl⟩) w
  ·exact p1 w
  ·exact p2 w
 have PP:=q00 pp;have P3:=q00 p3;have q1:K.size+VA.size≤9223372036854775807:=(by omega);have n1:¬9223372036854775807 < K.size+VA.size:=(by omega);have n2:¬9223372036854775807 < K.size+VA.size+T.size:=(by omega);obtain⟨R,hR⟩:∃R,q38 f=R:=⟨_,rfl⟩;rw[hR]at HF ⊢;clear hfin hK hA hT pp p1 p2 p3 hb;clear hR;unfold q17 fcs at *;obtain⟨fk,fa,fb,fc,ff,fd,fm,fl⟩:=f;dsimp only at *;subst hfn;go_enter Tryz.func186,Tryz.ntmps186;go_wp2_with fail;obtain⟨w2,hw2⟩:∃w2,w.alloc (.cells #[.int .u64 (fk:Nat),.int .u64 (fa:Nat),.int .u64 (fb:Nat),.int .u64 (fc:Nat),.bool true,.string fd,.string fm,.slice A n c] 36)=w2:=⟨_,rfl⟩;obtain⟨g,hg⟩:∃g,w.heap.size=g:=⟨_,rfl⟩;have hm:Mod [] w w2:=(by rw[←hw2];exact(Mod.refl _ _).alloc _);have HM2:=q00 hm;rw[hw2,hg]at HBx;rw[hw2];simp only[hg];have HB2:=HBx;have hlt:=HB2.out.lt;clear hw2 hg hm HBx;have HS:=q00 (frS (f:=⟨fk,fa,fb,fc,true,fd,fm,fl⟩) HB2.out (Mod.refl [] _).drew);go_region_held3 (fun w'=>(w'.cell? ⟨g,0,none⟩=some (.int .u64 (fk:Nat))∧w'.cell? ⟨g,1,none⟩=some (.int .u64 (fa:Nat))∧w'.cell? ⟨g,2,none⟩=some (.int .u64 (fb:Nat))∧w'.cell? ⟨g,3,none⟩=some (.int .u64 (fc:Nat))∧w'.cell? ⟨g,4,none⟩=some (.bool true)∧w'.cell? ⟨g,5,none⟩=some (.string fd)∧w'.cell? ⟨g,6,none⟩=some (.string fm)∧w'.cell? ⟨g,7,none⟩=some (.slice A n c))∧Mod [] w2 w')
  (first | exact HS.out | assumption)
  (first
   | (go_at_call 158;refine(qm5 (f:=⟨fk,fa,fb,fc,true,fd,fm,fl⟩) HB2.out P3.out (by assumption)).mono ?_;rintro e w' ⟨rfl,hS'⟩)
   | (go_at_call 157;refine(qm5 (f:=⟨fk,fa,fb,fc,true,fd,fm,fl⟩) HB2.out (PP.out _ _ (by first | exact Or.inl ⟨rfl,rfl⟩ | exact Or.inr ⟨rfl,rfl⟩)) (by assumption)).mono ?_;rintro e w' ⟨rfl,hS'⟩))
 all_goals
  go_wp2_with fail
  go_ret
  exact⟨congrArg _ (qt0 HF.out),HM2.out.trans hS'.2 (by simp)⟩
theorem jk7 (w:World) (A:Option Addr) (n c:Nat) (f:Fr) (hd:f.data.size≤16384) (hb:f.b≠0) (hfn:f.fin=true):
  Calls Tryz.prog 186 #[q17 A n c f] w fun e w'=>e=.returned (str (q38 f))∧Mod [] w w':=by
 have HBx:=q00 (Blk.new w 36 (fcs A n c f));obtain⟨K,hK⟩:∃K,q50 15=K:=⟨_,rfl⟩;obtain⟨VA,hA⟩:∃K,q50 f.a=K:=⟨_,rfl⟩;obtain⟨T,hT⟩:∃K,q50 f.data.size++ f.data=K:=⟨_,rfl⟩;have s1:K.size≤8:=(by rw[←hK];exact q10 _);have s2:VA.size≤8:=(by rw[←hA];exact q10 _);have s3:T.size≤16392:=(by rw[←hT,ByteArray.size_append];have:=q10 f.data.size;omega);have p1:=fun w=>q18 w 15;have p2:=fun w=>q18 w f.a;have p3:=fun w=>qo7 w f.data (by omega);rw[hK]at p1;rw[hA]at p2;rw[hT]at p3
 push_cast at p1
 obtain⟨VB,hB⟩:∃K,q50 f.b=K:=⟨_,rfl⟩;have p4:=fun w=>q18 w f.b;have s4:VB.size≤8:=(by rw[←hB];exact q10 _);rw[hB]at p4;have P4:=q00 p4;have hfin:(K++ VA++ VB++ T).data.toList=q38 f:=(by rw[q20,q20,q20,←hK,←hA,←hT,←hB,q20];unfold q38 qf6;rw[if_neg hb,if_neg hb,hfn];simp[q60]);have q2:(K++ VA:ByteArray).size+VB.size≤9223372036854775807:=(by rw[ByteArray.size_append];omega);have q3:(K++ VA++ VB:ByteArray).size+T.size≤9223372036854775807:=(by rw[ByteArray.size_append,ByteArray.size_append];omega);have q4:K.size+VA.size+VB.size≤9223372036854775807:=(by omega);have q5:K.size+VA.size+VB.size+T.size≤9223372036854775807:=(by omega);have b0:((f.b:Int) !=0)=true:=(by simp;omega);have HF:=q00 hfin;have pp:∀(x:Int) (v:ByteArray),((x=15∧v=K)∨(x=(f.a:Nat)∧v=VA))→∀w,Calls Tryz.prog 157 #[.int .u64 x] w fun e w'=>e=.returned (.string v)∧Mod [] w w':=by
  rintro x v (⟨rfl,rfl⟩ | ⟨rfl,rfl⟩) w
  ·exact p1 w
  ·exact p2 w
 have PP:=q00 pp;have P3:=q00 p3;have q1:K.size+VA.size≤9223372036854775807:=(by omega);have n1:¬9223372036854775807 < K.size+VA.size:=(by omega);have n2:¬9223372036854775807 < K.size+VA.size+VB.size:=(by omega);have n3:¬9223372036854775807 < K.size+VA.size+VB.size+T.size:=(by omega);obtain⟨R,hR⟩:∃R,q38 f=R:=⟨_,rfl⟩;rw[hR]at HF ⊢;clear hfin hK hA hT hB pp p1 p2 p3 p4 hb;clear hR;unfold q17 fcs at *;obtain⟨fk,fa,fb,fc,ff,fd,fm,fl⟩:=f;dsimp only at *;subst hfn;go_enter Tryz.func186,Tryz.ntmps186;go_wp2_with fail;refine(P4.out _).mono ?_;rintro e w2 ⟨rfl,m2⟩;have hb2:=m2.blk HBx.out (by simp);have HM2:=q00 (((Mod.refl [] w).alloc (.cells #[.int .u64 (fk:Nat),.int .u64 (fa:Nat),.int .u64 (fb:Nat),.int .u64 (fc:Nat),.bool true,.string fd,.string fm,.slice A n c] 36)).trans m2 (by simp));have HB2:=q00 hb2;have p4':w2.cell? ⟨w.heap.size,4,none⟩=some (.bool true):=hb2.cell 4;have hlt:=hb2.lt;clear hb2 m2 HBx;obtain⟨g,hg⟩:∃g,w.heap.size=g:=⟨_,rfl⟩;rw[hg]at HB2 p4' hlt;simp only[hg];clear hg;go_wp2_with fail;clear p4';have HS:=q00 (frS (f:=⟨fk,fa,fb,fc,true,fd,fm,fl⟩) HB2.out (Mod.refl [] _).drew);go_region_held3 (fun w'=>(w'.cell? ⟨g,0,none⟩=some (.int .u64 (fk:Nat))∧w'.cell? ⟨g,1,none⟩=some (.int .u64 (fa:Nat))∧w'.cell? ⟨g,2,none⟩=some (.int .u64 (fb:Nat))∧w'.cell? ⟨g,3,none⟩=some (.int .u64 (fc:Nat))∧w'.cell? ⟨g,4,none⟩=some (.bool true)∧w'.cell? ⟨g,5,none⟩=some (.string fd)∧w'.cell? ⟨g,6,none⟩=some (.string fm)∧w'.cell? ⟨g,7,none⟩=some (.slice A n c))∧Mod [] w2 w')
  (first | exact HS.out | assumption)
  (first
   | (go_at_call 158;refine(qm5 (f:=⟨fk,fa,fb,fc,true,fd,fm,fl⟩) HB2.out P3.out (by assumption)).mono ?_;rintro e w' ⟨rfl,hS'⟩)
   | (go_at_call 157;refine(qm5 (f:=⟨fk,fa,fb,fc,true,fd,fm,fl⟩) HB2.out (PP.out _ _ (by first | exact Or.inl ⟨rfl,rfl⟩ | exact Or.inr ⟨rfl,rfl⟩)) (by assumption)).mono ?_;rintro e w' ⟨rfl,hS'⟩))
 all_goals
  go_wp2_with fail
  go_ret
  exact⟨congrArg _ (qt0 HF.out),HM2.out.trans hS'.2 (by simp)⟩
theorem jx (w:World) (A:Option Addr) (n c:Nat) (f:Fr) (hd:f.data.size≤16384):
  Calls Tryz.prog 186 #[q17 A n c f] w fun e w'=>e=.returned (str (q38 f))∧Mod [] w w':=by
 by_cases hb:f.b=0
 ·cases hf:f.fin
  ·exact jk4 w A n c f hd hb hf
  ·exact jk5 w A n c f hd hb hf
 ·cases hf:f.fin
  ·exact jk6 w A n c f hd hb hf
  ·exact jk7 w A n c f hd hb hf
abbrev RS:=Option (List UInt8)
def q21:RS→Nat×RS
 | none=>(0,none)
 | some s=>match q58 s with | some x=>(x.1,some x.2) | none=>(0,none)
def q82 (n:Nat):RS→List UInt8×RS
 | none=>([],none)
 | some s=>if n≤s.length then(s.take n,some (s.drop n))else([],none)
def qj8 (st:RS):List UInt8×RS:=q82 (q21 st).1 (q21 st).2
theorem q48 {s:List UInt8} {x:Nat×List UInt8} (h:q58 s=some x):q21 (some s)=(x.1,some x.2):=by simp only[q21,h]
theorem q43 {s:List UInt8} (h:q58 s=none):q21 (some s)=(0,none):=by simp only[q21,h]
theorem z09 (st:RS):(q21 st).1 < 4611686018427387904:=by
 cases st with
 | none=>simp[q21]
 | some s=>
  cases h:q58 s with
  | none=>rw[q43 h];simp
  | some x=>rw[q48 h];exact(q25 (n:=x.1) (r:=x.2) h).2
theorem qr {n:Nat} {s:List UInt8} {x:List UInt8×List UInt8} (h:qg9 n s=some x):q82 n (some s)=(x.1,some x.2):=by
 unfold qg9 at h
 split at h
 ·rename_i hn;cases h;simp only[q82,if_pos hn]
 ·cases h
theorem qq9 {n:Nat} {s:List UInt8} (h:qg9 n s=none):q82 n (some s)=([],none):=by
 unfold qg9 at h
 split at h
 ·cases h
 ·rename_i hn;simp only[q82,if_neg hn]
theorem qx5 {s:List UInt8} {x:List UInt8×List UInt8} (h:q67 s=some x):qj8 (some s)=(x.1,some x.2):=by unfold q67 at h;obtain⟨y,h1,h2⟩:=Option.bind_eq_some_iff.1 h;unfold qj8;rw[q48 h1];exact qr h2
theorem qx4 {s:List UInt8} (h:q67 s=none):qj8 (some s)=([],none):=by
 unfold q67 at h;unfold qj8;cases h1:q58 s with
 | none=>rw[q43 h1];rfl
 | some y=>rw[h1]at h;rw[q48 h1];exact qq9 h
def qj2:Nat→Nat→Fr→RS→Fr×RS
 | _,_,f,none=>(f,none)
 | 0,high,f,some s=>if high < (q21 (some s)).1 then(f,none)else({ f with list:=f.list++ [(high - (q21 (some s)).1,high)] },(q21 (some s)).2)
 | k+1,high,f,some s=>if high < (q21 (some s)).1 then(f,none)else
   if high - (q21 (some s)).1 < (q21 (q21 (some s)).2).1+2 then({ f with list:=f.list++ [(high - (q21 (some s)).1,high)] },none)
   else qj2 k (high - (q21 (some s)).1 - (q21 (q21 (some s)).2).1 - 2) { f with list:=f.list++ [(high - (q21 (some s)).1,high)] } (q21 (q21 (some s)).2).2
theorem qk8 (k high:Nat) (f:Fr):qj2 k high f none=(f,none):=by cases k <;> rfl
theorem j92 {c:Prop} [Decidable c] {a b:Fr×RS} (ha:a.2=none) (hb:b.2=none):(if c then a else b).2=none:=by
 split
 ·exact ha
 ·exact hb
theorem jg1:∀(k high:Nat) (f:Fr) (s:List UInt8),match j18 k high s with
  | some x=>qj2 k high f (some s)=({ f with list:=f.list++ x.1 },some x.2)
  | none=>(qj2 k high f (some s)).2=none
 | 0,high,f,s=>by
  unfold j18 qj2;cases h:q58 s with
  | none=>rw[q43 h];simp
  | some x=>
   rw[q48 h];simp only[Option.bind_some];by_cases h1:high < x.1
   ·simp[h1]
   ·rw[if_neg h1,if_neg h1]
 | k+1,high,f,s=>by
  unfold j18 qj2;cases h:q58 s with
  | none=>rw[q43 h];exact j92 rfl (j92 rfl (congrArg Prod.snd (qk8 _ _ _)))
  | some x=>
   rw[q48 h];simp only[Option.bind_some];by_cases h1:high < x.1
   ·simp[h1]
   ·rw[if_neg h1,if_neg h1];cases h2:q58 x.2 with
    | none=>rw[q43 h2];exact j92 rfl (congrArg Prod.snd (qk8 _ _ _))
    | some y=>
     rw[q48 h2];simp only[Option.bind_some];by_cases h3:high - x.1 < y.1+2
     ·simp[h3]
     ·rw[if_neg h3,if_neg h3];have ih:=jg1 k (high - x.1 - y.1 - 2) { f with list:=f.list++ [(high - x.1,high)] } y.2;cases h4:j18 k (high - x.1 - y.1 - 2) y.2 with
      | none=>rw[h4]at ih;exact ih
      | some z=>rw[h4]at ih;simp only[Option.map_some]at ih ⊢;rw[ih];simp
def q75 (f:Fr) (st:RS):Fr×RS:=
 if 64≤(q21 (q21 (q21 st).2).2).1 then({ f with a:=(q21 (q21 st).2).1 },none)
 else qj2 (q21 (q21 (q21 st).2).2).1 (q21 st).1 { f with a:=(q21 (q21 st).2).1 } (q21 (q21 (q21 st).2).2).2
theorem jj6 (f:Fr) (s:List UInt8):match j38 s with
  | some x=>q75 f (some s)=({ f with a:=x.1.1,list:=f.list++ x.1.2 },some x.2)
  | none=>(q75 f (some s)).2=none:=by
 unfold j38 q75;cases h:q58 s with
 | none=>rw[q43 h];simp[q21,qk8]
 | some x=>
  rw[q48 h];simp only[Option.bind_some];cases h2:q58 x.2 with
  | none=>rw[q43 h2];simp[q21,qk8]
  | some y=>
   rw[q48 h2];simp only[Option.bind_some];cases h3:q58 y.2 with
   | none=>rw[q43 h3];simp[qk8]
   | some z=>
    rw[q48 h3];simp only[Option.bind_some];by_cases h4:64≤z.1
    ·simp[h4]
    ·rw[if_neg h4,if_neg h4];have:=jg1 z.1 x.1 { f with a:=y.1 } z.2;cases h5:j18 z.1 x.1 z.2 with
     | none=>rw[h5]at this;exact this
     | some u=>rw[h5]at this;exact this
def qn5 (f:Fr) (st:RS):Fr×RS:=
 if f.kind=3 then
  ({ (q75 f st).1 with b:=(q21 (q75 f st).2).1,c:=(q21 (q21 (q75 f st).2).2).1,more:=⟨(be (q21 (q21 (q21 (q75 f st).2).2).2).1 8).toArray⟩ },(q21 (q21 (q21 (q75 f st).2).2).2).2)
 else q75 f st
theorem jj5 (f:Fr) (st:RS):(q75 f st).1.kind=f.kind:=by
 have key:∀(k high:Nat) (f:Fr) (st:RS),(qj2 k high f st).1.kind=f.kind:=by
  intro k;induction k with
  | zero=>
   intro high f st;cases st with
   | none=>rfl
   | some s=>unfold qj2;split <;> rfl
  | succ k ih=>
   intro high f st;cases st with
   | none=>rfl
   | some s=>
    unfold qj2
    split
    ·rfl
    ·split
     ·rfl
     ·rw[ih]
 unfold q75
 split
 ·rfl
 ·rw[key]
def qg3 (f:Fr) (st:RS):Fr×RS:=
 let a:=q21 st
 let b:Nat×RS:=if f.kind / 4 % 2=1 then((q21 a.2).1,if(q21 a.2).1=0 then none else(q21 a.2).2)else(f.b,a.2)
 let s2:RS:=if f.kind / 2 % 2=0 then none else b.2
 ({ f with kind:=8,a:=a.1,b:=b.1,fin:=decide (f.kind % 2=1),data:=⟨(qj8 s2).1.toArray⟩ },(qj8 s2).2)
def qx3 (f:Fr) (st:RS):Fr×RS:=
 let a:=q21 st
 let b:=q21 a.2
 let n:=q82 1 b.2
 match n.1 with
 | []=>({ f with a:=a.1,b:=b.1 },n.2)
 | x ::_=>({ f with a:=a.1,b:=b.1,data:=⟨(q82 x.toNat n.2).1.toArray⟩,more:=⟨(q82 16 (q82 x.toNat n.2).2).1.toArray⟩ },(q82 16 (q82 x.toNat n.2).2).2)
def q95 (j n:Nat) (f:Fr) (st:RS):Fr×RS:=
 let a:Nat×RS:=if 0 < j∧0 < n then q21 st else(f.a,st)
 let b:Nat×RS:=if 1 < j∧1 < n then q21 a.2 else(f.b,a.2)
 let c:Nat×RS:=if 2 < j∧2 < n then q21 b.2 else(f.c,b.2)
 ({ f with a:=a.1,b:=b.1,c:=c.1 },c.2)
def jb8 (sh:Shp) (st:RS):List UInt8×RS:=if sh.t then qj8 st else q82 sh.x st
def q87 (sh:Shp) (f:Fr) (st:RS):Fr×RS:=
 if sh.t=true∨0 < sh.x then({ (q95 3 sh.n f st).1 with data:=⟨(jb8 sh (q95 3 sh.n f st).2).1.toArray⟩ },(jb8 sh (q95 3 sh.n f st).2).2)
 else q95 3 sh.n f st
def zq0 (f:Fr):RS→Fr×RS
 | none=>(f,none)
 | some s=>({ f with a:=min (qd8 s) 16383+1 },some (s.drop (min (qd8 s) 16383)))
def q76 (st:RS):Fr×RS:=
 let k:=q21 st
 let f:Fr:= { fr0 with kind:=k.1 }
 if k.2=none then(f,none)else
 match q16 k.1 with
 | some sh=>q87 sh f k.2
 | none=>if k.1=0 then zq0 f k.2 else if k.1=2∨k.1=3 then qn5 f k.2 else if 8≤k.1∧k.1 < 16 then qg3 f k.2 else if k.1=24 then qx3 f k.2 else(f,none)
theorem jw6 (sh:Shp):(jb8 sh none).2=none:=by
 unfold jb8
 split <;> rfl
theorem z83 (n:Nat) (hn:n≤3) (f:Fr) (ha:f.a=0) (hb:f.b=0) (hc:f.c=0) (s:List UInt8):match qj n s with
  | some x=>q95 3 n f (some s)=({ f with a:=x.1.getD 0 0,b:=x.1.getD 1 0,c:=x.1.getD 2 0 },some x.2)
  | none=>(q95 3 n f (some s)).2=none:=by
 match n,hn with
 | 0,_=>simp[qj,q95,ha,hb,hc]
 | 1,_=>
  cases h:q58 s with
  | none=>simp[qj,q95,h,q21]
  | some x=>simp[qj,q95,h,q21,hb,hc]
 | 2,_=>
  cases h:q58 s with
  | none=>simp[qj,q95,h,q21]
  | some x=>cases h2:q58 x.2 <;> simp[qj,q95,h,h2,q21,hc]
 | 3,_=>
  cases h:q58 s with
  | none=>simp[qj,q95,h,q21]
  | some x=>
   cases h2:q58 x.2 with
   | none=>simp[qj,q95,h,h2,q21]
   | some y=>cases h3:q58 y.2 <;> simp[qj,q95,h,h2,h3,q21]
theorem jj8 (sh:Shp) (hn:sh.n≤3) (k:Nat) (s:List UInt8):match qx k sh s with
  | some x=>q87 sh { fr0 with kind:=k } (some s)=(x.1,some x.2)
  | none=>(q87 sh { fr0 with kind:=k } (some s)).2=none:=by
 have h1:=z83 sh.n hn { fr0 with kind:=k } rfl rfl rfl s;unfold qx q87;cases h:qj sh.n s with
 | none=>
  rw[h]at h1;simp only at h1;simp only[Option.bind_none,h1,jw6]
  split
  ·rfl
  ·exact h1
 | some x=>
  rw[h]at h1;simp only at h1;simp only[h1,Option.bind_some];unfold jb8;by_cases ht:sh.t=true
  ·rw[if_pos ht,if_pos (.inl ht),if_pos ht];cases h2:q67 x.2 with
   | none=>simp[qx4 h2]
   | some y=>simp[qx5 h2,fr0]
  ·rw[if_neg ht];by_cases hx:0 < sh.x
   ·rw[if_pos hx,if_pos (.inr hx),if_neg ht];cases h2:qg9 sh.x x.2 with
    | none=>simp[qq9 h2]
    | some y=>simp[qr h2,fr0]
   ·rw[if_neg hx,if_neg (by simp[ht];omega)];rfl
theorem jq1 (k:Nat) (s:List UInt8):match ja1 k s with
  | some x=>qn5 { fr0 with kind:=k } (some s)=(x.1,some x.2)
  | none=>(qn5 { fr0 with kind:=k } (some s)).2=none:=by
 have h1:=jj6 { fr0 with kind:=k } s;unfold ja1 qn5;cases h:j38 s with
 | none=>
  rw[h]at h1;simp only at h1;simp only[Option.bind_none,h1]
  split
  ·simp[q21]
  ·exact h1
 | some x=>
  rw[h]at h1;simp only at h1;simp only[h1,Option.bind_some];by_cases hk:k=3
  ·rw[if_pos hk,if_pos hk];cases h2:q58 x.2 with
   | none=>simp[h2,q21]
   | some y=>
    cases h3:q58 y.2 with
    | none=>simp[h2,q21,h3]
    | some z=>cases h4:q58 z.2 <;> simp[h2,q21,h3,h4,fr0]
  ·rw[if_neg hk,if_neg hk];simp[fr0]
theorem jc1 {st:RS} (h:st=none):(qj8 st).2=none:=by subst h;rfl
theorem jj9 (k:Nat) (s:List UInt8):match j0 k s with
  | some x=>qg3 { fr0 with kind:=k } (some s)=(x.1,some x.2)
  | none=>(qg3 { fr0 with kind:=k } (some s)).2=none:=by
 unfold j0 qg3;simp only;cases h:q58 s with
 | none=>rw[q43 h];exact jc1 (by by_cases h4:k / 4 % 2=1 <;> by_cases h2:k / 2 % 2=0 <;> simp[h4,h2,q21])
 | some x=>
  rw[q48 h];simp only[Option.bind_some];by_cases h4:k / 4 % 2=1
  ·rw[if_pos h4,if_pos h4];cases h2:q58 x.2 with
   | none=>rw[q43 h2];exact jc1 (by by_cases h2:k / 2 % 2=0 <;> simp[h2])
   | some y=>
    rw[q48 h2];simp only[Option.bind_some];by_cases h0:y.1=0
    ·rw[if_pos h0,if_pos h0];simp[qj8,q21,q82]
    ·rw[if_neg h0,if_neg h0];simp only[Option.bind_some];by_cases h2:k / 2 % 2=0
     ·rw[if_pos h2,if_pos h2];rfl
     ·rw[if_neg h2,if_neg h2];cases h5:q67 y.2 with
      | none=>simp[qx4 h5]
      | some z=>simp[qx5 h5,fr0]
  ·rw[if_neg h4,if_neg h4];simp only[Option.bind_some];by_cases h2:k / 2 % 2=0
   ·rw[if_pos h2,if_pos h2];rfl
   ·rw[if_neg h2,if_neg h2];cases h5:q67 x.2 with
    | none=>simp[qx4 h5]
    | some z=>simp[qx5 h5,fr0]
theorem z68 (s:List UInt8):match zh9 s with
  | some x=>qx3 { fr0 with kind:=24 } (some s)=(x.1,some x.2)
  | none=>(qx3 { fr0 with kind:=24 } (some s)).2=none:=by
 unfold zh9 qx3;simp only;cases h:q58 s with
 | none=>rw[q43 h];rfl
 | some x=>
  rw[q48 h];simp only[Option.bind_some];cases h2:q58 x.2 with
  | none=>rw[q43 h2];rfl
  | some y=>
   rw[q48 h2];simp only[Option.bind_some];cases h3:y.2 with
   | nil=>rfl
   | cons n t=>
    have e:q82 1 (some (n ::t))=([n],some t):=(by simp[q82]);rw[e];simp only;cases h4:qg9 n.toNat t with
    | none=>rw[qq9 h4];rfl
    | some z=>
     rw[qr h4];simp only[Option.bind_some];cases h5:qg9 16 z.2 with
     | none=>rw[qq9 h5];rfl
     | some u=>rw[qr h5];rfl
theorem qs8 (s:List UInt8):match qg1 s with
  | some x=>q76 (some s)=(x.1,some x.2)
  | none=>(q76 (some s)).2=none:=by
 unfold qg1 q76;simp only;cases h:q58 s with
 | none=>rw[q43 h];rfl
 | some x=>
  rw[q48 h];simp only[Option.bind_some];rw[if_neg (show ¬(some x.2:RS)=none by simp)];cases hs:q16 x.1 with
  | some sh=>exact jj8 sh (q77 hs).2.1 x.1 x.2
  | none=>
   simp only;by_cases h0:x.1=0
   ·rw[if_pos h0,if_pos h0];simp[zq0,zv0,fr0,h0]
   ·rw[if_neg h0,if_neg h0];by_cases h2:x.1=2∨x.1=3
    ·rw[if_pos h2,if_pos h2];exact jq1 x.1 x.2
    ·rw[if_neg h2,if_neg h2];by_cases h8:8≤x.1∧x.1 < 16
     ·rw[if_pos h8,if_pos h8];exact jj9 x.1 x.2
     ·rw[if_neg h8,if_neg h8];by_cases h24:x.1=24
      ·rw[if_pos h24,if_pos h24,h24];exact z68 x.2
      ·rw[if_neg h24,if_neg h24]
def RdO (w:World) (R:Nat) (st:RS):Prop:=∃s:ByteArray,Blk w R 123 #[.string s,.bool st.isNone]∧s.size≤1000000∧∀l,st=some l→s.data.toList=l
theorem RdO.mod {F:List Nat} {w w':World} {R:Nat} {st:RS} (h:RdO w R st) (m:Mod F w w') (hF:R∉F):RdO w' R st:=by obtain⟨s,h1,h2⟩:=h;exact⟨s,m.blk h1 hF,h2⟩
theorem RdO.lt {w:World} {R:Nat} {st:RS} (h:RdO w R st):R < w.heap.size:=by obtain⟨s,h1,h2⟩:=h;exact h1.lt
theorem RdO.mk' {w:World} {R:Nat} {st:RS} {s:ByteArray} {b:Bool} (h1:Blk w R 123 #[.string s,.bool b]) (h2:s.size≤1000000) (h3:b=st.isNone) (h4:∀l,st=some l→s.data.toList=l):RdO w R st:=by subst h3;exact⟨s,h1,h2,h4⟩
theorem z94 (s:ByteArray):q58 s.data.toList=if(q35 s.data.toList).e=0∧qj3 (q35 s.data.toList).n=s.size - (q35 s.data.toList).rest.length then some ((q35 s.data.toList).n,(q35 s.data.toList).rest)else none:=by unfold q58 q34;simp only[Bool.and_eq_true,decide_eq_true_eq,beq_iff_eq,q05]
theorem qo0 {w w1:World} {R:Nat} {s:ByteArray} {b:Bool} (hb:Blk w1 R 123 #[.string s,.bool b]) (m1:Mod [R] w w1):
  RdO ((w1.setCell ⟨R,0,none⟩ (.string ⟨#[]⟩)).setCell ⟨R,1,none⟩ (.bool true)) R none∧Mod [R] w ((w1.setCell ⟨R,0,none⟩ (.string ⟨#[]⟩)).setCell ⟨R,1,none⟩ (.bool true)):=
 ⟨RdO.mk' (s:=⟨#[]⟩) (b:=true) ((hb.set_ 0 _).set_ 1 _) (by decide) rfl (fun l h=>by cases h),(m1.setCell (.inl (by simp)) _).setCell (.inl (by simp)) _⟩
theorem je5 {w w1:World} {R:Nat} {s S:ByteArray} (hb:Blk w1 R 123 #[.string s,.bool false]) (m1:Mod [R] w w1) (hS:S.size≤1000000) {l:List UInt8} (hl:S.data.toList=l):
  RdO (w1.setCell ⟨R,0,none⟩ (.string S)) R (some l)∧Mod [R] w (w1.setCell ⟨R,0,none⟩ (.string S)):=
 ⟨RdO.mk' (s:=S) (b:=false) (hb.set_ 0 _) hS rfl (fun k h=>by cases h;exact hl),m1.setCell (.inl (by simp)) _⟩
theorem jb5 (w:World) (R:Nat) (st:RS) (h:RdO w R st):
  Calls Tryz.prog 130 #[.pointer (some ⟨R,0,none⟩)] w fun e w'=>e=.returned (.int .u64 ((q21 st).1:Nat))∧RdO w' R (q21 st).2∧Mod [R] w w':=by
 obtain⟨s,hb,hs,hl⟩:=h;have hr:=qy s.data.toList;have hT:=jg8 w s;have hp:=z94 s;rw[q05]at hr;obtain⟨n,hn⟩:∃n,(q35 s.data.toList).n=n:=⟨_,rfl⟩;obtain⟨S,hS⟩:∃S:ByteArray,S=⟨(q35 s.data.toList).rest.toArray⟩:=⟨_,rfl⟩;obtain⟨ev,hev⟩:∃e,(q35 s.data.toList).e=e:=⟨_,rfl⟩;have hSl:(q35 s.data.toList).rest=S.data.toList:=(by rw[hS]);have hsr:str (q35 s.data.toList).rest=.string S:=(by rw[hS];rfl);rw[hn,hsr,hev]at hT;rw[hn,hev,hSl,q05]at hp;rw[hSl,q05]at hr;obtain⟨z,hz⟩:∃z,qj3 n=z:=⟨_,rfl⟩;rw[hz]at hp;have hZ:=fun w=>jg7 w n;rw[hz]at hZ;have HT:=q00 hT;have HZ:=q00 hZ;have HL:=q00 hl;clear hT hZ hl hz hn hS hSl hsr hev;have hlt:=hb.lt;cases st with
 | some l=>
  simp only[Option.isNone_some]at hb;by_cases h0:ev=0
  ·subst h0;by_cases h1:z=s.size - S.size
   ·have HP:=q00 (hp.trans (if_pos ⟨rfl,h1⟩));have e1:(q21 (some l)).1=n:=(by rw[←HL.out l rfl,q48 HP.out]);have e2:(q21 (some l)).2=some S.data.toList:=(by rw[←HL.out l rfl,q48 HP.out]);have HE:=q00 (And.intro e1 e2);subst h1;clear e1 e2 hp HP;go_enter Tryz.func130,Tryz.ntmps130;have c0:w.cell? ⟨R,0,none⟩=some (.string s):=hb.cell 0;go_wp2_with fail;refine HT.out.mono ?_;rintro e w1 ⟨rfl,m1⟩;have hb1:=m1.blk hb (by simp);have HB1:=q00 hb1;have c0:w1.cell? ⟨R,0,none⟩=some (.string s):=hb1.cell 0;have c1:w1.cell? ⟨R,1,none⟩=some (.bool false):=hb1.cell 1;have f0:=hb1.frozen 0;have hl1:=hb1.lt;have z1:(s.size:Int) - S.size=((s.size - S.size:Nat):Int):=(by omega);clear hb hb1;go_wp2_with fail;go_quiet ((go_at_call 102;exact Calls.quiet_of_same (HZ.out _)));go_wp2_with fail;go_ret;rw[HE.out.1,HE.out.2];exact⟨rfl,je5 (s:=s) (S:=S) (w1:=w1.drewN _) HB1.out ((m1.mono (G:= [R]) (by simp)).drewN _) (by omega) rfl⟩
   ·have HP:=q00 (hp.trans (if_neg (fun h=>h1 h.2)));have e1:(q21 (some l)).1=0:=(by rw[←HL.out l rfl,q43 HP.out]);have e2:(q21 (some l)).2=none:=(by rw[←HL.out l rfl,q43 HP.out]);have HE:=q00 (And.intro e1 e2);have z2:((z:Int) !=(s.size:Int) - S.size)=true:=(by simp;omega);clear e1 e2 hp HP;go_enter Tryz.func130,Tryz.ntmps130;have c0:w.cell? ⟨R,0,none⟩=some (.string s):=hb.cell 0;go_wp2_with fail;refine HT.out.mono ?_;rintro e w1 ⟨rfl,m1⟩;have hb1:=m1.blk hb (by simp);have HB1:=q00 hb1;have c0:w1.cell? ⟨R,0,none⟩=some (.string s):=hb1.cell 0;have c1:w1.cell? ⟨R,1,none⟩=some (.bool false):=hb1.cell 1;have f0:=hb1.frozen 0;have f1:=hb1.frozen 1;have hl1:=hb1.lt;clear hb hb1;go_wp2_with fail;go_quiet ((go_at_call 102;exact Calls.quiet_of_same (HZ.out _)));go_wp2_with fail;go_ret;rw[HE.out.1,HE.out.2];exact⟨rfl,qo0 HB1.out ((m1.mono (G:= [R]) (by simp)).drewN _)⟩
  ·have HP:=q00 (hp.trans (if_neg (fun h=>h0 h.1)));have e1:(q21 (some l)).1=0:=(by rw[←HL.out l rfl,q43 HP.out]);have e2:(q21 (some l)).2=none:=(by rw[←HL.out l rfl,q43 HP.out]);have HE:=q00 (And.intro e1 e2);have z2:(ev !=0)=true:=(by simpa using h0);clear e1 e2 hp HP h0;go_enter Tryz.func130,Tryz.ntmps130;have c0:w.cell? ⟨R,0,none⟩=some (.string s):=hb.cell 0;go_wp2_with fail;refine HT.out.mono ?_;rintro e w1 ⟨rfl,m1⟩;have hb1:=m1.blk hb (by simp);have HB1:=q00 hb1;have f0:=hb1.frozen 0;have f1:=hb1.frozen 1;have c0:w1.cell? ⟨R,0,none⟩=some (.string s):=hb1.cell 0;have c1:w1.cell? ⟨R,1,none⟩=some (.bool false):=hb1.cell 1;have hl1:=hb1.lt;clear hb hb1;go_wp2_with fail;go_quiet (fail);go_wp2_with fail;go_ret;rw[HE.out.1,HE.out.2];exact⟨rfl,qo0 HB1.out ((m1.mono (G:= [R]) (by simp)).drewN _)⟩
 | none=>
  simp only[Option.isNone_none]at hb;clear hp HL;by_cases h0:ev=0
  ·subst h0;go_enter Tryz.func130,Tryz.ntmps130;have c0:w.cell? ⟨R,0,none⟩=some (.string s):=hb.cell 0;go_wp2_with fail;refine HT.out.mono ?_;rintro e w1 ⟨rfl,m1⟩;have hb1:=m1.blk hb (by simp);have HB1:=q00 hb1;have f0:=hb1.frozen 0;have f1:=hb1.frozen 1;have c0:w1.cell? ⟨R,0,none⟩=some (.string s):=hb1.cell 0;have c1:w1.cell? ⟨R,1,none⟩=some (.bool true):=hb1.cell 1;have hl1:=hb1.lt;clear hb hb1;go_wp2_with fail;go_quiet (fail);go_wp2_with fail;go_ret;exact⟨rfl,qo0 HB1.out ((m1.mono (G:= [R]) (by simp)).drewN _)⟩
  ·have z2:(ev !=0)=true:=(by simpa using h0);clear h0;go_enter Tryz.func130,Tryz.ntmps130;have c0:w.cell? ⟨R,0,none⟩=some (.string s):=hb.cell 0;go_wp2_with fail;refine HT.out.mono ?_;rintro e w1 ⟨rfl,m1⟩;have hb1:=m1.blk hb (by simp);have HB1:=q00 hb1;have f0:=hb1.frozen 0;have f1:=hb1.frozen 1;have c0:w1.cell? ⟨R,0,none⟩=some (.string s):=hb1.cell 0;have c1:w1.cell? ⟨R,1,none⟩=some (.bool true):=hb1.cell 1;have hl1:=hb1.lt;clear hb hb1;go_wp2_with fail;go_quiet (fail);go_wp2_with fail;go_ret;exact⟨rfl,qo0 HB1.out ((m1.mono (G:= [R]) (by simp)).drewN _)⟩
theorem jb9 (w:World) (R:Nat) (st:RS) (h:RdO w R st) (n:Nat) (hn:n≤18446744073709551615):
  Calls Tryz.prog 168 #[.pointer (some ⟨R,0,none⟩),.int .u64 n] w fun e w'=>e=.returned (str (q82 n st).1)∧RdO w' R (q82 n st).2∧Mod [R] w w':=by
 obtain⟨s,hb,hs,hl⟩:=h;have HL:=q00 hl;have HB:=q00 hb;have hlt:=hb.lt;have f0:=hb.frozen 0;have f1:=hb.frozen 1;have c0:w.cell? ⟨R,0,none⟩=some (.string s):=hb.cell 0;have c1:w.cell? ⟨R,1,none⟩=some (.bool st.isNone):=hb.cell 1;clear hl hb;cases st with
 | some l=>
  simp only[Option.isNone_some]at c1 HB;have el:=HL.out l rfl;have hll:l.length=s.size:=(by rw[←el,q05]);by_cases h:n≤s.size
  ·have e:q82 n (some l)=(l.take n,some (l.drop n)):=(by simp only[q82,if_pos (show n≤l.length by omega)]);have HE:=q00 e;have HLen:=q00 hll;have HEl:=q00 el;have h2:¬((n:Int) > s.size):=(by omega);have h3:(n:Int)≤s.size:=(by omega);clear e hll el HL;go_enter Tryz.func168,Tryz.ntmps168;go_wp2_with fail;go_ret;rw[HE.out];have x1:s.extract 0 n=⟨(l.take n).toArray⟩:=(by apply ByteArray.ext;apply Array.ext';rw[Lib.extract_data,HEl.out];simp);have x2:(s.extract n s.size).data.toList=l.drop n:=(by rw[Lib.extract_data,HEl.out,List.take_of_length_le (by rw[List.length_drop,HLen.out];omega)]);have x3:(s.extract n s.size).size≤1000000:=(by rw[←q05,x2,List.length_drop,HLen.out];omega);rw[x1];exact⟨rfl,je5 HB.out (Mod.refl _ _) x3 x2⟩
  ·have e:q82 n (some l)=([],none):=(by simp only[q82,if_neg (show ¬n≤l.length by omega)]);have HE:=q00 e;have h2:((n:Int) > s.size):=(by omega);clear e hll el HL;go_enter Tryz.func168,Tryz.ntmps168;go_wp2_with fail;go_ret;rw[HE.out];exact⟨rfl,qo0 HB.out (Mod.refl _ _)⟩
 | none=>simp only[Option.isNone_none]at c1 HB;clear HL;go_enter Tryz.func168,Tryz.ntmps168;go_wp2_with fail;go_ret;exact⟨rfl,qo0 HB.out (Mod.refl _ _)⟩
theorem z86 (w:World) (R:Nat) (st:RS) (h:RdO w R st):
  Calls Tryz.prog 167 #[.pointer (some ⟨R,0,none⟩)] w fun e w'=>e=.returned (str (qj8 st).1)∧RdO w' R (qj8 st).2∧Mod [R] w w':=by
 have H:=q00 h;have hn:=z09 st;have HNum:=q00 (fun w h=>jb5 w R st h);have HT:=q00 (fun w h=>jb9 w R (q21 st).2 h (q21 st).1 (by omega));have HV:Hid (qj8 st=q82 (q21 st).1 (q21 st).2):=q00 rfl;obtain⟨N,hN⟩:∃N,(q21 st).1=N:=⟨_,rfl⟩;rw[hN]at HNum HT HV hn;clear h hN;go_enter Tryz.func167,Tryz.ntmps167;go_wp2_with fail;refine(HNum.out _ H.out).mono ?_;rintro e w1 ⟨rfl,h1,m1⟩;go_wp2_with fail;refine(HT.out _ h1).mono ?_;rintro e w2 ⟨rfl,h2,m2⟩;unfold str;go_wp2_with fail;go_ret;rw[HV.out];exact⟨rfl,h2,m1.trans m2 (by simp)⟩
def za4 (l k:List (Nat×Nat)) (j:Nat):Prop:=∀i (h1:i < l.length) (h2:i < k.length),i < j→l[i]=k[i]
theorem jg2 (w:World) (A B:Option Addr) (n m c d:Nat) (f g:Fr) (hf:Rngs w A n f.list) (hg:Rngs w B m g.list) (v:Bool) (hv:qc6 f g=v):
  Calls Tryz.prog 56 #[q17 A n c f,q17 B m d g] w (RPost w v):=by
 have hn1:=hf.2.1;have hm1:=hg.2.1;have hbx1:=(Blk.new w 36 (fcs A n c f)).alloc (.cells (fcs B m d g) 36);have hbx2:Blk ((w.alloc (.cells (fcs A n c f) 36)).alloc (.cells (fcs B m d g) 36)) (w.heap.size+1) 36 (fcs B m d g):=by have:=Blk.new (w.alloc (.cells (fcs A n c f) 36)) 36 (fcs B m d g);rw[World.size_alloc]at this;exact this
 have hmo:Mod [] w ((w.alloc (.cells (fcs A n c f) 36)).alloc (.cells (fcs B m d g) 36)):=((Mod.refl _ _).alloc _).alloc _;have HB1:=q00 hbx1;have HB2:=q00 hbx2;have HMo:=q00 hmo;have HF:=q00 (hf.new hmo);have HG:=q00 (hg.new hmo);have hsz:(w.alloc (.cells (fcs A n c f) 36)).heap.size=w.heap.size+1:=World.size_alloc _ _;clear hbx1 hbx2 hmo;obtain⟨k1,a1,b1,c1,i1,d1,m1,l1⟩:=f;obtain⟨k2,a2,b2,c2,i2,d2,m2,l2⟩:=g;unfold q17 fcs at *;simp only at hf hg HF HG ⊢;have HLn:=q00 (show l1.length=n from hf.1);have HLm:=q00 (show l2.length=m from hg.1);have HV:=q00 hv;clear hv hf hg;by_cases hnm:n=m;rotate_left
 ·have hvf:Hid (v=false):=q00 (by rw[←HV.out];exact qf5 (fun e=>hnm (by rw[←HLn.out,←HLm.out];exact congrArg (fun f=>f.list.length) e)));have q1:((n:Int) !=(m:Int))=true:=(by simp;omega);have q2:(n !=m)=true:=(by simpa using hnm);clear hnm HV HF HG HLn HLm;go_enter Tryz.func56,Tryz.ntmps56;go_wp2_with fail;go_ret;exact⟨by rw[hvf.out];rfl,HMo.out⟩
 subst hnm;have hne:∀j (h1:j < l1.length) (h2:j < l2.length),l1[j]≠l2[j]→v=false:=fun j h1 h2 hne=>(by rw[←HV.out];refine qf5 (fun e=>hne ?_);have e2:l1=l2:=congrArg Fr.list e;subst e2;rfl);have hfin:za4 l1 l2 n→v=(decide (k1=k2) && decide (a1=a2) && decide (b1=b2) && decide (c1=c2) && decide (i1=i2) && decide (d1=d2) && decide (m1=m2)):=fun h=>by
  have e2:l1=l2:=by
   apply List.ext_getElem
   ·rw[HLn.out,HLm.out]
   ·intro i h1 h2;exact h i h1 h2 (by have:=HLn.out;omega)
  rw[←HV.out];unfold qc6;simp only;rw[decide_eq_true e2,Bool.and_true]
 have HNe:=q00 hne;have HFin:=q00 hfin;clear hne hfin HV;go_enter Tryz.func56,Tryz.ntmps56;go_wp2_with fail;obtain⟨W1,hW1⟩:∃W1,(w.alloc (.cells #[.int .u64 (k1:Nat),.int .u64 (a1:Nat),.int .u64 (b1:Nat),.int .u64 (c1:Nat),.bool i1,.string d1,.string m1,.slice A n c] 36)).alloc (.cells #[.int .u64 (k2:Nat),.int .u64 (a2:Nat),.int .u64 (b2:Nat),.int .u64 (c2:Nat),.bool i2,.string d2,.string m2,.slice B n d] 36)=W1:=⟨_,rfl⟩;rw[hW1]at HB1 HB2 HMo HF HG ⊢;clear hW1 hsz;go_loopw [5] (fun iv wr=>∃j:Nat,j≤n∧iv=.int .i64 (j:Int)∧Hid (za4 l1 l2 j)∧∃q,wr=W1.drewN q) (fun iv _=>n - (intOf iv).toNat)
 case atStart=>exact⟨0,by omega,rfl,q00 (fun i h1 h2 h3=>by omega),0,rfl⟩
 case round=>
  obtain⟨j,hj,rfl,hC,q,rfl⟩:=hrel;have hmq:Mod [] W1 (W1.drewN q):=(Mod.refl _ _).drewN _;have B1:=hmq.blk HB1.out (by simp);have B2:=hmq.blk HB2.out (by simp);have hl1:=HB1.out.lt;have hl2:=HB2.out.lt;have x0:=HB1.out.cell 0;have x1:=HB1.out.cell 1;have x2:=HB1.out.cell 2;have x3:=HB1.out.cell 3;have x4:=HB1.out.cell 4;have x5:=HB1.out.cell 5;have x6:=HB1.out.cell 6;have x7:=HB1.out.cell 7;have y0:=HB2.out.cell 0;have y1:=HB2.out.cell 1;have y2:=HB2.out.cell 2;have y3:=HB2.out.cell 3;have y4:=HB2.out.cell 4;have y5:=HB2.out.cell 5;have y6:=HB2.out.cell 6;have y7:=HB2.out.cell 7;clear B1 B2 hmq;by_cases h:j < n
  ·obtain⟨g,o,hjl,rfl,hgl,c0,c1⟩:=HF.out.at_ h;obtain⟨g',o',hjk,rfl,hgl',d0,d1⟩:=HG.out.at_ h;have hbad:=HNe.out j hjl hjk;have hnext:l1[j]=l2[j]→za4 l1 l2 (j+1):=fun he i h1 h2 h3=>by
    by_cases e:i=j
    ·subst e;exact he
    ·exact hC.out i h1 h2 (by omega)
   obtain⟨x,hx⟩:∃x,l1[j]=x:=⟨_,rfl⟩;obtain⟨y,hy⟩:∃x,l2[j]=x:=⟨_,rfl⟩;rw[hx]at c0 c1 hbad hnext;rw[hy]at d0 d1 hbad hnext;obtain⟨u1,u2⟩:=x;obtain⟨v1,v2⟩:=y;simp only at c0 c1 d0 d1;have HBad:=q00 hbad;have HNext:=q00 hnext;clear hx hy hbad hnext hC hjl hjk;by_cases h1:u1=v1
   ·subst h1;by_cases h2:u2=v2
    ·subst h2;have HN:=q00 (HNext.out rfl);clear HBad HNext;go_wp2_with fail;go_quiet (fail);go_wp2_with fail;go_roundw
     case rel=>exact⟨j+1,by omega,by go_num,HN,by first | exact⟨_,rfl⟩ | exact⟨_,World.drewN_drewN _ _ _⟩⟩
     case measure=>simp[intOf];omega
    ·have hvf:=HBad.out (fun e=>h2 (by cases e;rfl));have b1:((u2:Int)==(v2:Int))=false:=(by simp;omega);have b2:(u2==v2)=false:=(by simpa using h2);have b3:((u2:Int) !=(v2:Int))=true:=(by simp;omega);have b4:(u2 !=v2)=true:=(by simpa using h2);have HV:=q00 hvf;clear HBad HNext hvf;go_wp2_with fail;go_quiet (fail);go_wp2_with fail;go_ret;exact⟨by rw[HV.out];rfl,by first | exact HMo.out.drewN _ | exact(HMo.out.drewN _).drewN _⟩
   ·have hvf:=HBad.out (fun e=>h1 (by cases e;rfl));have b1:((u1:Int)==(v1:Int))=false:=(by simp;omega);have b2:(u1==v1)=false:=(by simpa using h1);have HV:=q00 hvf;clear HBad HNext hvf;go_wp2_with fail;go_quiet (fail);go_wp2_with fail;go_ret;exact⟨by rw[HV.out];rfl,by first | exact HMo.out.drewN _ | exact(HMo.out.drewN _).drewN _⟩
  ·have hjn:j=n:=(by omega);subst hjn;have HVv:=q00 (HFin.out hC.out);clear hC h HF HG HFin;by_cases h0:k1=k2;rotate_left
   ·have q1:((k1:Int)==(k2:Int))=false:=(by simp;omega);have q2:(k1==k2)=false:=(by simpa using h0);have hvf:Hid (v=false):=q00 (by rw[HVv.out];simp[h0]);clear h0 HVv;go_wp2_with fail;go_ret;exact⟨by rw[hvf.out];rfl,HMo.out.drewN _⟩
   subst h0;by_cases h1:a1=a2;rotate_left
   ·have q1:((a1:Int)==(a2:Int))=false:=(by simp;omega);have q2:(a1==a2)=false:=(by simpa using h1);have hvf:Hid (v=false):=q00 (by rw[HVv.out];simp[h1]);clear h1 HVv;go_wp2_with fail;go_ret;exact⟨by rw[hvf.out];rfl,HMo.out.drewN _⟩
   subst h1;by_cases h2:b1=b2;rotate_left
   ·have q1:((b1:Int)==(b2:Int))=false:=(by simp;omega);have q2:(b1==b2)=false:=(by simpa using h2);have hvf:Hid (v=false):=q00 (by rw[HVv.out];simp[h2]);clear h2 HVv;go_wp2_with fail;go_ret;exact⟨by rw[hvf.out];rfl,HMo.out.drewN _⟩
   subst h2;by_cases h3:c1=c2;rotate_left
   ·have q1:((c1:Int)==(c2:Int))=false:=(by simp;omega);have q2:(c1==c2)=false:=(by simpa using h3);have hvf:Hid (v=false):=q00 (by rw[HVv.out];simp[h3]);clear h3 HVv;go_wp2_with fail;go_ret;exact⟨by rw[hvf.out];rfl,HMo.out.drewN _⟩
   subst h3;by_cases h4:i1=i2;rotate_left
   ·have q1:(i1==i2)=false:=(by simpa using h4);have hvf:Hid (v=false):=q00 (by rw[HVv.out];simp[h4]);clear h4 HVv;go_wp2_with fail;go_ret;exact⟨by rw[hvf.out];rfl,HMo.out.drewN _⟩
   subst h4;by_cases h5:d1=d2;rotate_left
   ·have q1:=qa3 h5;have hvf:Hid (v=false):=q00 (by rw[HVv.out];simp[h5]);clear h5 HVv;go_wp2_with fail;go_ret;exact⟨by rw[hvf.out];rfl,HMo.out.drewN _⟩
   subst h5;by_cases h6:m1=m2;rotate_left
   ·have q1:=qa3 h6;have hvf:Hid (v=false):=q00 (by rw[HVv.out];simp[h6]);clear h6 HVv;go_wp2_with fail;go_ret;exact⟨by rw[hvf.out];rfl,HMo.out.drewN _⟩
   subst h6;have hvt:Hid (v=true):=q00 (by rw[HVv.out];simp);clear HVv;go_wp2_with fail;go_ret;exact⟨by rw[hvt.out];rfl,HMo.out.drewN _⟩
end Go.Proofs.YtlfjhgamlkbofaaGreatDoor
