/-
  The statement Writes: its walk, and the row (the given condition alone).
-/
import Derived.Test.YtlfjhgamlkbofaaGreatDoorWE6
import Derived.Test.YtlfjhgamlkbofaaGreatDoorRows
import Derived.Test.YtlfjhgamlkbofaaGreatDoorWRB
import Derived.Test.YtlfjhgamlkbofaaGreatDoorWC
import Derived.Test.YtlfjhgamlkbofaaGreatDoorCards
import Derived.Test.YtlfjhgamlkbofaaGreatDoorTie
import Derived.Lay
import Derived.Deep.DeepHandedRow
import Derived.LaidOnce
import Derived.SevenTiedAt
import Derived.WalkKit
import Derived.ProofKit
import Derived.OpenShut
import Derived.ShutString
import Derived.ChangeOld
import Derived.Below
set_option linter.unusedVariables false
set_option linter.unusedSimpArgs false
set_option maxRecDepth 100000
set_option maxHeartbeats 16000000
namespace Go.Proofs.YtlfjhgamlkbofaaGreatDoor
open Go.RowKit Js
theorem zc2 {H:Type} (d:DataW H):1≤Rows.uptoBulk d:=by
 cases d with
 | lit l=>cases l <;> simp[Rows.uptoBulk]
 | _=>simp[Rows.uptoBulk]
theorem j68 {H:Type} :∀l:List (DataW H),l.length≤Rows.uptoBulkAll l
 | []=>by simp[Rows.uptoBulkAll]
 | x ::r=>by have:=zc2 x;have:=j68 r;simp only[Rows.uptoBulkAll,List.length_cons];omega
section
open Go.ChangeShapes Go.WideShapes Go.Deep
variable {H:Type} {enc:TypeId×Value→H} {w:World} {base:Nat} {held:Bool}
theorem c1:Tryz.prog.cellsOf 33=1∧Tryz.prog.cellsOf 3=1∧Tryz.prog.cellsOf 9=1∧Tryz.prog.cellsOf 4=1∧Tryz.prog.cellsOf 34=1∧Tryz.prog.cellsOf 77=2∧Tryz.prog.cellsOf 36=8∧Tryz.prog.cellsOf 38=14:=⟨by kernel_rfl,by kernel_rfl,by kernel_rfl,by kernel_rfl,by kernel_rfl,by kernel_rfl,by kernel_rfl,by kernel_rfl⟩
theorem qz0 {n:Nat} {v:Value} {x:DataW H×List MemPlace} (h:DataW.trod enc Tryz.prog w base (fun _=>true) held n 33 [v]=some x):∃u:Nat,v=.int .u64 (u:Nat):=by obtain⟨z,e,_,wf⟩:=DataW.trod_int Tryz.underlying33 h;obtain⟨u,rfl⟩:=Int.eq_ofNat_of_zero_le (bounds_u64 wf).1;exact⟨u,by simpa using e⟩
theorem zr6 {n:Nat} {v:Value} {x:DataW H×List MemPlace} (h:DataW.trod enc Tryz.prog w base (fun _=>true) held n 3 [v]=some x):∃z:Int,v=.int .i64 z:=by obtain⟨z,e,_,wf⟩:=DataW.trod_int Tryz.underlying3 h;exact⟨z,by simpa using e⟩
theorem zc8 {n:Nat} {v:Value} {x:DataW H×List MemPlace} (h:DataW.trod enc Tryz.prog w base (fun _=>true) held n 9 [v]=some x):∃s:ByteArray,v=.string s∧s.size+1=Rows.uptoBulk x.1:=by obtain⟨s,e,rfl,_⟩:=DataW.trod_string Tryz.underlying9 h;exact⟨s,by simpa using e,by simp only[Rows.uptoBulk,q05]⟩
theorem zw8 {n:Nat} {v:Value} {x:DataW H×List MemPlace} (h:DataW.trod enc Tryz.prog w base (fun _=>true) held n 4 [v]=some x):∃b:Bool,v=.bool b:=by obtain⟨b,e,_⟩:=DataW.trod_bool Tryz.underlying4 h;exact⟨b,by simpa using e⟩
theorem zx {n:Nat} {v:Value} {x:DataW H×List MemPlace} (h:DataW.trod enc Tryz.prog w base (fun _=>true) held n 34 [v]=some x):
  ∃(A:Option Addr) (l:List (Nat×Nat)) (c:Nat),v=.slice A l.length c∧l.length≤Rows.uptoBulk x.1∧(l.length≤4611686018427387904→Rngs w A l.length l):=by
 rcases open_slice Tryz.underlying34 h with⟨hcs,rfl⟩ | ⟨a,len,cap,m,n',D,Pl,hcs,_,hl,hm,hmm,rfl,hi⟩
 ·simp only[List.cons.injEq,and_true]at hcs;exact⟨none,[],0,hcs,Nat.zero_le _,fun _=>Rngs.nil w⟩
 ·simp only[List.cons.injEq,and_true]at hcs;simp only[if_true]at hmm;subst hmm;have hex:∀i,i < len→∃y:Nat×Nat,w.cell? (a.add (i * 2))=some (.int .u64 (y.1:Nat))∧w.cell? (a.add (i * 2+1))=some (.int .u64 (y.2:Nat)):=by
   intro i hil;obtain⟨cs',hc,ht⟩:=hi i (by omega);rw[c1.2.2.2.2.2.1]at hc;obtain⟨_,hcn,hat⟩:=World.cells?_some hc;obtain⟨xs,k,_,_,_,hxl,hf⟩:=DataW.trod_struct Tryz.underlying77 ht;have hxl:xs.length=2:=hxl
   match cs',hcn,xs,hxl with
   | [u,v],_,[y0,y1],_=>have t0:DataW.trod enc Tryz.prog w base (fun _=>true) held k 33 (([u,v].drop 0).take (Tryz.prog.cellsOf 33))=some y0:=hf 0 _ rfl;have t1:DataW.trod enc Tryz.prog w base (fun _=>true) held k 33 (([u,v].drop 1).take (Tryz.prog.cellsOf 33))=some y1:=hf 1 _ rfl;rw[c1.1]at t0 t1;obtain⟨u0,rfl⟩:=qz0 (v:=u) t0;obtain⟨u1,rfl⟩:=qz0 (v:=v) t1;have h0:=hat 0 (by decide);have h1:=hat 1 (by decide);rw[Go.Deep.add_add]at h0 h1;exact⟨(u0,u1),h0,h1⟩
  obtain⟨L,hL,hP⟩:=j81 hex;refine⟨some a,L,_,by rw[hcs,hL],?_,fun hbig=>⟨rfl,hbig,?_⟩⟩
  ·simp only[Rows.uptoBulk];have:=j68 ((List.range len).map D);rw[List.length_map,List.length_range]at this;omega
  ·rcases Nat.eq_zero_or_pos len with h0 | h0
   ·exact .inl (by omega)
   ·right;obtain⟨b,off,spot⟩:=a;obtain⟨y,hy⟩:∃y,L[0]? =some y:=⟨_,List.getElem?_eq_getElem (by omega)⟩;have hc0:=(hP 0 y hy).1;have hspot:spot=none:=(by simpa [Addr.add] using World.cell?_spot hc0);subst hspot;refine⟨b,off,rfl,World.block_lt_of_cell? w _ hc0,fun i z hz=> ?_⟩;have h1:=(hP i z hz).1;have h2:=(hP i z hz).2;rw[Addr.add_lit]at h1 h2;exact⟨h1,h2⟩
theorem zw9 {n:Nat} {a6 a7 a8 a9 a10 a11 a12 a13:Value} {x:DataW H×List MemPlace} (h:DataW.trod enc Tryz.prog w base (fun _=>true) held n 36 [a6,a7,a8,a9,a10,a11,a12,a13]=some x):
  ∃(f:Fr) (A:Option Addr) (c:Nat),[a6,a7,a8,a9,a10,a11,a12,a13]= [.int .u64 (f.kind:Nat),.int .u64 (f.a:Nat),.int .u64 (f.b:Nat),.int .u64 (f.c:Nat),.bool f.fin,.string f.data,.string f.more,.slice A f.list.length c]∧
   f.data.size+f.more.size+f.list.length≤Rows.uptoBulk x.1∧(f.list.length≤4611686018427387904→Rngs w A f.list.length f.list):=by
 obtain⟨xs,k,_,rfl,_,hxl,hf⟩:=DataW.trod_struct Tryz.underlying36 h;have hxl:xs.length=8:=hxl
 match xs,hxl with
 | [y0,y1,y2,y3,y4,y5,y6,y7],_=>have t0:DataW.trod enc Tryz.prog w base (fun _=>true) held k 33 (([a6,a7,a8,a9,a10,a11,a12,a13].drop 0).take (Tryz.prog.cellsOf 33))=some y0:=hf 0 _ rfl;have t1:DataW.trod enc Tryz.prog w base (fun _=>true) held k 33 (([a6,a7,a8,a9,a10,a11,a12,a13].drop 1).take (Tryz.prog.cellsOf 33))=some y1:=hf 1 _ rfl;have t2:DataW.trod enc Tryz.prog w base (fun _=>true) held k 33 (([a6,a7,a8,a9,a10,a11,a12,a13].drop 2).take (Tryz.prog.cellsOf 33))=some y2:=hf 2 _ rfl;have t3:DataW.trod enc Tryz.prog w base (fun _=>true) held k 33 (([a6,a7,a8,a9,a10,a11,a12,a13].drop 3).take (Tryz.prog.cellsOf 33))=some y3:=hf 3 _ rfl;have t4:DataW.trod enc Tryz.prog w base (fun _=>true) held k 4 (([a6,a7,a8,a9,a10,a11,a12,a13].drop 4).take (Tryz.prog.cellsOf 4))=some y4:=hf 4 _ rfl;have t5:DataW.trod enc Tryz.prog w base (fun _=>true) held k 9 (([a6,a7,a8,a9,a10,a11,a12,a13].drop 5).take (Tryz.prog.cellsOf 9))=some y5:=hf 5 _ rfl;have t6:DataW.trod enc Tryz.prog w base (fun _=>true) held k 9 (([a6,a7,a8,a9,a10,a11,a12,a13].drop 6).take (Tryz.prog.cellsOf 9))=some y6:=hf 6 _ rfl;have t7:DataW.trod enc Tryz.prog w base (fun _=>true) held k 34 (([a6,a7,a8,a9,a10,a11,a12,a13].drop 7).take (Tryz.prog.cellsOf 34))=some y7:=hf 7 _ rfl;rw[c1.1]at t0 t1 t2 t3;rw[c1.2.2.2.1]at t4;rw[c1.2.2.1]at t5 t6;rw[c1.2.2.2.2.1]at t7;obtain⟨u0,rfl⟩:=qz0 (v:=a6) t0;obtain⟨u1,rfl⟩:=qz0 (v:=a7) t1;obtain⟨u2,rfl⟩:=qz0 (v:=a8) t2;obtain⟨u3,rfl⟩:=qz0 (v:=a9) t3;obtain⟨fb,rfl⟩:=zw8 (v:=a10) t4;obtain⟨s5,rfl,e5⟩:=zc8 (v:=a11) t5;obtain⟨s6,rfl,e6⟩:=zc8 (v:=a12) t6;obtain⟨A,l,c,rfl,e7,hr⟩:=zx (v:=a13) t7;refine⟨⟨u0,u1,u2,u3,fb,s5,s6,l⟩,A,c,rfl,?_,hr⟩;simp only[List.map_cons,List.map_nil,Rows.uptoBulk,Rows.uptoBulkAll];omega
theorem zq7 (n:Nat) (cs:List Value) (x:DataW H×List MemPlace) (hlen:cs.length=14) (h:DataW.trod enc Tryz.prog w base (fun _=>true) held n 38 cs=some x):
  ∃y:EV,cs=y.cells∧(y.e.f.list.length≤4611686018427387904→Rngs w y.A y.e.f.list.length y.e.f.list)∧esz y.e≤20+Rows.uptoBulk x.1:=by
 obtain⟨xs,k,_,rfl,_,hxl,hf⟩:=DataW.trod_struct Tryz.underlying38 h;have hxl:xs.length=7:=hxl
 match cs,hlen,xs,hxl with
 | [a0,a1,a2,a3,a4,a5,a6,a7,a8,a9,a10,a11,a12,a13],_,[y0,y1,y2,y3,y4,y5,y6],_=>have t0:DataW.trod enc Tryz.prog w base (fun _=>true) held k 3 (([a0,a1,a2,a3,a4,a5,a6,a7,a8,a9,a10,a11,a12,a13].drop 0).take (Tryz.prog.cellsOf 3))=some y0:=hf 0 _ rfl;have t1:DataW.trod enc Tryz.prog w base (fun _=>true) held k 3 (([a0,a1,a2,a3,a4,a5,a6,a7,a8,a9,a10,a11,a12,a13].drop 1).take (Tryz.prog.cellsOf 3))=some y1:=hf 1 _ rfl;have t2:DataW.trod enc Tryz.prog w base (fun _=>true) held k 33 (([a0,a1,a2,a3,a4,a5,a6,a7,a8,a9,a10,a11,a12,a13].drop 2).take (Tryz.prog.cellsOf 33))=some y2:=hf 2 _ rfl;have t3:DataW.trod enc Tryz.prog w base (fun _=>true) held k 33 (([a0,a1,a2,a3,a4,a5,a6,a7,a8,a9,a10,a11,a12,a13].drop 3).take (Tryz.prog.cellsOf 33))=some y3:=hf 3 _ rfl;have t4:DataW.trod enc Tryz.prog w base (fun _=>true) held k 33 (([a0,a1,a2,a3,a4,a5,a6,a7,a8,a9,a10,a11,a12,a13].drop 4).take (Tryz.prog.cellsOf 33))=some y4:=hf 4 _ rfl;have t5:DataW.trod enc Tryz.prog w base (fun _=>true) held k 9 (([a0,a1,a2,a3,a4,a5,a6,a7,a8,a9,a10,a11,a12,a13].drop 5).take (Tryz.prog.cellsOf 9))=some y5:=hf 5 _ rfl;have t6:DataW.trod enc Tryz.prog w base (fun _=>true) held k 36 (([a0,a1,a2,a3,a4,a5,a6,a7,a8,a9,a10,a11,a12,a13].drop 6).take (Tryz.prog.cellsOf 36))=some y6:=hf 6 _ rfl;rw[c1.2.1]at t0 t1;rw[c1.1]at t2 t3 t4;rw[c1.2.2.1]at t5;rw[c1.2.2.2.2.2.2.1]at t6;obtain⟨z0,rfl⟩:=zr6 (v:=a0) t0;obtain⟨z1,rfl⟩:=zr6 (v:=a1) t1;obtain⟨u2,rfl⟩:=qz0 (v:=a2) t2;obtain⟨u3,rfl⟩:=qz0 (v:=a3) t3;obtain⟨u4,rfl⟩:=qz0 (v:=a4) t4;obtain⟨s5,rfl,e5⟩:=zc8 (v:=a5) t5;obtain⟨f,A,c,ef,e6,hr⟩:=zw9 (a6:=a6) (a7:=a7) (a8:=a8) (a9:=a9) (a10:=a10) (a11:=a11) (a12:=a12) (a13:=a13) t6;simp only[List.cons.injEq,and_true]at ef;obtain⟨rfl,rfl,rfl,rfl,rfl,rfl,rfl,rfl⟩:=ef;refine⟨⟨⟨z0,z1,u2,u3,u4,s5,f⟩,A,c⟩,rfl,hr,?_⟩;unfold esz;simp only[List.map_cons,List.map_nil,Rows.uptoBulk,Rows.uptoBulkAll];omega
theorem zk1 {D:Nat→DataW H} :∀(l:List EV),(∀i y,l[i]? =some y→esz y.e≤20+Rows.uptoBulk (D i))→q97 (evs l)≤20 * l.length+Rows.uptoBulkAll ((List.range l.length).map D):=by
 intro l;induction l generalizing D with
 | nil=>intro _;simp[evs,q97]
 | cons x r ih=>intro h;have h0:=h 0 x rfl;have h1:=ih (D:=fun i=>D (i+1)) (fun i y hy=>h (i+1) y (by simpa using hy));have e1:q97 (evs (x ::r))=esz x.e+q97 (evs r):=(by unfold evs q97;simp);have e2:(List.range (x ::r).length).map D=D 0 ::(List.range r.length).map (fun i=>D (i+1)):=(by rw[List.length_cons,List.range_succ_eq_map,List.map_cons,List.map_map];rfl);rw[e1,e2,List.length_cons];simp only[Rows.uptoBulkAll];omega
theorem jp4 {v:Value} {d:DataW H} {p:List MemPlace} {r:Reach} {b0:Nat} (hv:Value.okWide Tryz.prog w r b0 23 v) (h:DataW.Trod enc Tryz.prog w base (fun _=>true) held 23 v d p) (hb:Rows.uptoBulk d≤1048576):
  ∃(A:Option Addr) (c:Nat) (l:List EV),v=.slice A l.length c∧EIn w A l∧l.length≤c∧l.length≤1048576∧q97 (evs l)≤100000000:=by
 obtain⟨a0,n0,c0,rfl⟩:=okWide_slice Tryz.underlying23 hv;obtain⟨fuel,hf⟩:=h;have hf:DataW.trod enc Tryz.prog w base (fun _=>true) held fuel 23 [.slice a0 n0 c0]=some (d,p):=hf;rcases open_slice Tryz.underlying23 hf with⟨hcs,_⟩ | ⟨a,len,cap,m,n,D,Pl,hcs,_,hl,hm,hmm,hx,hi⟩
 ·simp only[List.cons.injEq,and_true]at hcs;exact⟨none,0,[],hcs,⟨⟨by simp,.inl rfl⟩,by simp⟩,Nat.le_refl _,by simp,by simp[evs,q97]⟩
 ·simp only[List.cons.injEq,and_true]at hcs;simp only[if_true]at hmm;subst hmm;have hex:∀i,i < len→∃y:EV,(∀j u,y.cells[j]? =some u→w.cell? (a.add (i * 14+j))=some u)∧(y.e.f.list.length≤4611686018427387904→Rngs w y.A y.e.f.list.length y.e.f.list)∧esz y.e≤20+Rows.uptoBulk (D i):=(by intro i hil;obtain⟨cs',hc,htr⟩:=hi i (by omega);rw[c1.2.2.2.2.2.2.2]at hc;obtain⟨_,hcn,hat⟩:=World.cells?_some hc;obtain⟨y,rfl,hr,hz⟩:=zq7 _ _ _ hcn htr;refine⟨y,fun j u hu=> ?_,hr,hz⟩;have hj:j < 14:=(List.getElem?_eq_some_iff.1 hu).1;rw[←Go.Deep.add_add,hat j hj,hu]);obtain⟨L,hL,hP⟩:=j81 hex;have hd:d=(.slice ((List.range len).map D) ((List.range (m - len)).map fun j=>D (len+j))):=congrArg Prod.fst hx;rw[hd]at hb;simp only[Rows.uptoBulk]at hb;have hs:=zk1 (D:=D) L (fun i y hy=>(hP i y hy).2.2);rw[hL]at hs;have hln:=j68 ((List.range len).map D);rw[List.length_map,List.length_range]at hln;refine⟨some a,m,L,by rw[hcs,hL],⟨⟨by omega,?_⟩,fun y hy=> ?_⟩,by omega,by omega,by omega⟩
  ·rcases Nat.eq_zero_or_pos len with h0 | h0
   ·exact .inl (List.eq_nil_of_length_eq_zero (by omega))
   ·right;obtain⟨b,off,spot⟩:=a;obtain⟨y,hy⟩:∃y,L[0]? =some y:=⟨_,List.getElem?_eq_getElem (by omega)⟩;have hc0:=(hP 0 y hy).1 0 _ (show y.cells[0]? =some (.int .i64 y.e.kind)from rfl);have hspot:spot=none:=(by simpa [Addr.add] using World.cell?_spot hc0);subst hspot;refine⟨b,off,rfl,by have h9:=World.block_lt_of_cell? w _ hc0;rw[Addr.add_lit]at h9;exact h9,fun i z hz j u hu=> ?_⟩;have h1:=(hP i z hz).1 j u hu;rw[Addr.add_lit,←Nat.add_assoc]at h1;exact h1
  ·obtain⟨i,hi2⟩:=List.mem_iff_getElem?.1 hy;have hp:=hP i y hi2;refine hp.2.1 ?_;have h1:esz y.e≤q97 (evs L):=j78 (List.mem_map.2 ⟨y,hy,rfl⟩);unfold esz at h1;omega
end
theorem jc7 (O:Ev→List UInt8) (l:List EV):∃(a:ByteArray) (x:Int),q79 O l=.tuple #[.string a,.int .i64 x]:=⟨_,_,rfl⟩
theorem zn7 {l:List EV} (h:q97 (evs l)≤4096):∀x∈l,esz x.e≤4096:=fun x hx=>by have:=j78 (l:=evs l) (List.mem_map.2 ⟨x,hx,rfl⟩);omega
theorem j51 (W:World) (A:Option Addr) (c:Nat) (l:List EV) (h:EIn W A l) (hb:q97 (evs l)≤4611686018427387904) (B:Nat) (hB:B≤W.heap.size) (hj:JVars B W):Calls Tryz.prog 4 #[.slice A l.length c] W (RPost W true):=by
 have HJ:=q00 (fun w' (m:Mod [] W w')=>hj.mod m hB (by simp));have HZ:=q00 (fun w' (m:Mod [] W w')=>Nat.le_trans hB m.size);have HM:=q00 (Mod.refl [] W);have HE:=q00 (fun w' (m:Mod [] W w')=>h.new m);have HLg:=q00 (fun w' (m:Mod [] W w') v hv=>z58 w' A c l (h.new m) hb v hv);have HB:=q00 (fun w' (m:Mod [] W w') hn=>jh8 w' A c l (h.new m) hn);have HBr:=q00 (fun w' (m:Mod [] W w') hn=>z64 w' A c l (h.new m) hn);have HS:=q00 (fun w' (m:Mod [] W w') hn=>z10 w' A c l (h.new m) hn B (HZ.out _ m) (HJ.out _ m));have HSr:=q00 (fun w' (m:Mod [] W w') hn hz=>z66 w' A c l (h.new m) hn hz);obtain⟨a,x,ha⟩:=jc7 qf2 l;obtain⟨b,y,hbb⟩:=jc7 qm2 l;unfold j60 at HBr HSr;rw[ha]at HB HBr;rw[hbb]at HS HSr;obtain⟨n,hn⟩:∃n,l.length=n:=⟨_,rfl⟩;have HN:=q00 hn;rw[hn]at HLg HB HBr HS HSr ⊢;clear h hb hB hj ha hbb hn;go_enter Tryz.func4,Tryz.ntmps4;go_wp2_with fail;refine(z17 W B (HZ.out _ HM.out) (HJ.out _ HM.out)).mono ?_;rintro e0 w1 ⟨rfl,m0⟩;have HM:=q00 (HM.out.trans m0 (by simp));clear m0;go_wp2_with fail;rcases hem (4096 < q97 (evs l))with hl | hl
 ·refine(HLg.out w1 HM.out true (decide_eq_true hl.out)).mono ?_;rintro e0 w2 ⟨rfl,m0⟩;have HM:=q00 (HM.out.trans m0 (by simp));clear m0;go_wp2_with fail;go_ret;exact⟨rfl,HM.out⟩
 have HSz:Hid (q97 (evs l)≤4096):=q00 (by have:=hl.out;omega);have HNl:Hid (l.length≤204):=q00 (zl5 HSz.out);have hn':n≤204:=by have:=HN.out;have:=HNl.out;omega
 refine(HLg.out w1 HM.out false (decide_eq_false hl.out)).mono ?_;rintro e0 w2 ⟨rfl,m0⟩;have HM:=q00 (HM.out.trans m0 (by simp));clear m0;go_wp2_with fail;clear hl;refine(HB.out w2 HM.out (by omega)).mono ?_;rintro e0 w3 ⟨rfl,m0⟩;have HM:=q00 (HM.out.trans m0 (by simp));clear m0;go_wp2_with fail;refine(HBr.out w3 HM.out (by omega)).mono ?_;rintro e0 w4 ⟨rfl,m0⟩;have HM:=q00 (HM.out.trans m0 (by simp));clear m0;go_wp2_with fail;refine(HS.out w4 HM.out (by omega)).mono ?_;rintro e0 w5 ⟨rfl,m0⟩;have HM:=q00 (HM.out.trans m0 (by simp));clear m0;go_wp2_with fail;refine(HSr.out w5 HM.out (by omega) (zn7 HSz.out)).mono ?_;rintro e0 w6 ⟨rfl,m0⟩;have HM:=q00 (HM.out.trans m0 (by simp));clear m0;go_wp2_with fail;clear HB HBr HS HSr HLg;go_loopw [38] (fun iv wr=>∃k:Nat,iv=.int .i64 (k:Int)∧k≤n∧Hid (Mod [] W wr)) (fun iv _=>n - (intOf iv).toNat)
 case atStart=>exact⟨0,rfl,Nat.zero_le _,HM⟩
 case round=>
  clear HM;obtain⟨k,rfl,hk,hm⟩:=hrel;by_cases hlt:k < n
  ·obtain⟨y,hy⟩:∃y,l[k]? =some y:=⟨_,List.getElem?_eq_getElem (by have:=HN.out;omega)⟩;obtain⟨z,hz⟩:∃z,l[0]? =some z:=⟨_,List.getElem?_eq_getElem (by have:=HN.out;omega)⟩;have hei:=HE.out wr hm.out;obtain⟨g,o,rfl,hg,hrg⟩:=hei.at_ hy;obtain⟨g',o',hA,_,hr0⟩:=hei.at_ hz;cases hA;have hry:=hei.rng y (List.mem_of_getElem? hy);have hrz:=hei.rng z (List.mem_of_getElem? hz);obtain⟨ec,hec⟩:∃ec,ecs y.A y.e.f.list.length y.c y.e=ec:=⟨_,rfl⟩;obtain⟨ec0,hec0⟩:∃ec,ecs z.A z.e.f.list.length z.c z.e=ec:=⟨_,rfl⟩;have HEz:Hid (ec.size=14):=q00 (by rw[←hec];rfl);have HEz0:Hid (ec0.size=14):=q00 (by rw[←hec0];rfl);unfold EV.cells at hrg hr0;rw[hec]at hrg;rw[hec0]at hr0;have RK:=q00 (q64 (S:=Mod [] wr) hrg hg (fun v m=>m));have R0:=q00 (q64 (S:=Mod [] wr) hr0 hg (fun v m=>m));obtain⟨p,hp⟩:∃p,q28 y.e=p:=⟨_,rfl⟩;obtain⟨q,hq⟩:∃q,qd3 y.e z.e=q:=⟨_,rfl⟩;have hma:=fun w' (m:Mod [] wr w')=>qi3 w' y.A y.e.f.list.length y.c y.e (hry.new m) p hp;have hmb:=fun w' (m:Mod [] wr w')=>j19 w' y.A y.e.f.list.length y.c y.e (hry.new m);have hsa:=fun w' (m:Mod [] wr w')=>qt8 w' y.A z.A y.e.f.list.length z.e.f.list.length y.c z.c y.e z.e (hry.new m) (hrz.new m) q hq;have hsb:=fun w' (m:Mod [] wr w')=>jv8 w' y.A z.A y.e.f.list.length z.e.f.list.length y.c z.c y.e z.e (hry.new m) (hrz.new m) q hq;unfold q46 at hma hmb hsa hsb;rw[hec]at hma hmb hsa hsb;rw[hec0]at hsa hsb;rw[hp]at hmb;have HMa:=q00 hma;have HMb:=q00 hmb;have HSa:=q00 hsa;have HSb:=q00 hsb;have hk0:(0:Int) < n:=(by omega);clear hy hz hei hrg hr0 hry hrz hec hec0 hp hq hma hmb hsa hsb;go_upto_region 12 with fail;refine q78 (Mod [] wr) [] [([0,1,2,3,5,6,7,8],4),([],9),([10,11,12,13,14,15,16,17,18,20,21,22,23,24,25,26],19),([],27)] [28,29] (by kernel_rfl) (by kernel_rfl) (fun _ _ _ _ _ h=>h) ((Mod.refl [] wr).drew) ?_;show wpQuiet _ _ _ _ _ _;simp only[gd];(repeat (first | (refine q14 rfl 38 _ rfl g (o+k * 14) rfl ec.toList _ RK.out rfl rfl (by rw[Array.length_toList,HEz.out];kernel_rfl) ?_;simp only[pu]) | go_big_quiet_step (fail)));refine wpQuiet_nil ?_;have HV:=q00 ((Mod.refl [] wr).drew);go_wp2_with fail;refine(HMa.out _ HV.out).mono ?_;rintro e0 v1 ⟨rfl,m9⟩;have HV:=q00 (HV.out.trans m9 (by simp));clear m9;go_wp2_with fail;refine Ph.on (fun _=>HV.out) ?_;show wpQuiet _ _ _ _ _ _;simp only[gd];refine wpQuiet_nil ?_;go_wp2_with fail;refine(HMb.out _ HV.out).mono ?_;rintro e0 v2 ⟨rfl,m9⟩;have HV:=q00 (HV.out.trans m9 (by simp));clear m9;go_wp2_with fail;refine Ph.on (fun _=>HV.out) ?_;show wpQuiet _ _ _ _ _ _;simp only[gd];(repeat (first | (refine q30 (by kernel_rfl) 38 _ rfl g (o+k * 14) rfl ec.toList _ RK.out rfl rfl (by rw[Array.length_toList,HEz.out];kernel_rfl) ?_;simp only[pu]) | (refine q30 (by kernel_rfl) 38 _ rfl g (o+0 * 14) rfl ec0.toList _ R0.out rfl rfl (by rw[Array.length_toList,HEz0.out];kernel_rfl) ?_;simp only[pu]) | go_big_quiet_step (fail)));refine wpQuiet_nil ?_;go_wp2_with fail;refine(HSa.out _ HV.out).mono ?_;rintro e0 v3 ⟨rfl,m9⟩;have HV:=q00 (HV.out.trans m9 (by simp));clear m9;go_wp2_with fail;refine Ph.on (fun _=>HV.out) ?_;show wpQuiet _ _ _ _ _ _;simp only[gd];refine wpQuiet_nil ?_;go_wp2_with fail;refine(HSb.out _ HV.out).mono ?_;rintro e0 v4 ⟨rfl,m9⟩;have HV:=q00 (HV.out.trans m9 (by simp));clear m9;go_wp2_with fail;refine Ph.on (fun _=>HV.out) ?_;show wpQuiet _ _ _ _ _ _;simp only[gd];(repeat (go_big_quiet_step (fail)));refine wpQuiet_nil ?_;have HVm:=q00 (hm.out.trans HV.out (by simp));clear HV HMa HMb HSa HSb RK R0;go_wp2_with fail;go_roundw
   case rel=>exact⟨k+1,by go_num,by omega,HVm⟩
   case measure=>simp[intOf];omega
  ·go_wp2_with fail;go_ret;exact⟨rfl,hm.out⟩
end Go.Proofs.YtlfjhgamlkbofaaGreatDoor
namespace Go.Proofs.YtlfjhgamlkbofaaGreatDoor.lawEventWrites
open Go.ChangeShapes Go.WideShapes Go.ChangeAt Go.RowKit
open Go.ChangeMaps (open_string shut_string)
theorem own:ownKnob Tryz.prog.godebug=none:=by kernel_rfl
theorem laidOut:laidOutB Tryz.prog=true:=by kernel_rfl
theorem wit (os : Os) {H : Type} (enc : TypeId × Value → H) : ∃ (w : World) (tape : Tape) (i : Input), w.os = os ∧ (w.forCall tape i).Shaped Tryz.checked.prog ∧ i.vars = [] ∧ Input.okWide Tryz.checked.prog (w.forCall tape i) .any w.heap.size 4 i ∧
      (Rows.OpenSpec.upto Rows.eventWritesSpec).preRow enc Tryz.checked.prog Tryz.f4 Rows.eventWritesUptoRow.domain false Rows.eventWritesUptoRow.laid (w.forCall tape i).memory i.args ∧ ({} : Assume).holds Tryz.checked.prog (lone (Frame.enter Tryz.checked.prog 4 i.args .normal) [] (w.forCall tape i)) := by
  obtain ⟨places, hx⟩ : ∃ places, DataW.whole enc Tryz.prog ((World.laidAll Tryz.prog os Rows.eventWritesUptoRow.laid).forCall (fun _ _ => 0) ⟨#[], #[.slice none 0 0], []⟩).memory Tryz.f4.params.toList Rows.eventWritesSpec.vars false (#[.slice none 0 0] : Array Value).toList 8 = some ([.nil], [], places) := ⟨[], by kernel_rfl⟩;have hok : Input.okWideB Tryz.prog ((World.laidAll Tryz.prog os Rows.eventWritesUptoRow.laid).forCall (fun _ _ => 0) ⟨#[], #[.slice none 0 0], []⟩) 4 ⟨#[], #[.slice none 0 0], []⟩ = true := by kernel_rfl
  exact ⟨World.laidAll Tryz.prog os Rows.eventWritesUptoRow.laid, fun _ _ => 0, ⟨#[], #[.slice none 0 0], []⟩, World.laidAll_os _ _ _, World.shaped_of_ZipB (by kernel_rfl) (by kernel_rfl), (Input.okWide_of_okWideB (base := 0) hok).1, (Input.okWide_of_okWideB hok).2,
    OpenSpec.preRow_of_cond 8 hx (by kernel_rfl) (fun k hk => by cases hk; kernel_rfl) (by kernel_rfl) (by rw [MakeChecks.laidMetH_plain _ _ _ (by kernel_rfl)]; exact laidMet_laidAll _ (by kernel_rfl) (by kernel_rfl)),
    by simp only [Assume.holds]; exact ⟨by simp, by simp, fun _ => Modest.zero, by simp, by simp⟩⟩
theorem lifted (os:Os) (started:os.Started) (H:Type) (enc:TypeId×Value→H) (F:Stop.Interp):
  ReturnsInHanded {} Tryz.checked os 4 .any ((Rows.OpenSpec.upto Rows.eventWritesSpec).preRow enc Tryz.prog Tryz.f4 Rows.eventWritesUptoRow.domain false Rows.eventWritesUptoRow.laid)
   (((Rows.OpenSpec.upto Rows.eventWritesSpec).at F).post enc Tryz.prog Tryz.f4 false true false false):=by
 refine returnsInHanded_of_row (C:=Tryz.checked) (s:=Rows.OpenSpec.upto Rows.eventWritesSpec) own started (by kernel_rfl) Tryz.func4 (wit os enc) ?_;intro W base args ds gs before hval0 hW hcnd hk hsz0 hlaid _ _;have hval:∀(j:Nat) t v,Tryz.f4.params[j]? =some t→args[j]? =some v→Value.okWide Tryz.prog W .any base t v:=hval0;have hW':=hW;obtain⟨p,q,hA0,hV,rfl,hfz,hnd⟩:=hW;have hA:DataW.TrodAll enc Tryz.prog W 0 (fun _=>true) true Tryz.f4.params.toList args.toList ds p:=hA0;rw[Tryz.params4]at hA hval;obtain⟨v0,vs0,d0,ds0,p0,q0,hargs,rfl,rfl,h0,r0⟩:=trodAll_cons hA;obtain⟨rfl,rfl,rfl⟩:=trodAll_nil r0;obtain rfl:args= #[v0]:=(by cases args;simp_all);obtain⟨rfl,rfl⟩:=trodVars_none hV;have hbb:=of_decide_eq_true (hk _ rfl);simp only[List.append_nil,Rows.uptoBulkAll]at hbb;have hb0:Rows.uptoBulk d0≤1048576:=(by omega);have k0:=h0;have lt0:∀x∈p0,x.block < W.heap.size:=(by obtain⟨m,hm⟩:=k0;exact DataW.trod_lt m _ _ _ hm);obtain⟨A0,c0,l0,rfl,hx0,hp0,hn0,hz0⟩:=jp4 (hval 0 23 v0 rfl rfl) h0 hb0;clear hA0 hval0;refine(j51 W A0 c0 l0 hx0 (by omega) W.heap.size (Nat.le_refl _) (jd6 hlaid)).mono fun e W' ⟨he,bel0⟩=> ?_;have bel:=bel0.below (Nat.le_refl _) (by simp);subst he;exact⟨_,rfl,_,_,_,[],_,[],hW',trodAll_mk1 (shut_bool Tryz.underlying4 _),(trodAll_cons_mk (Below.trod laidOut (by kernel_rfl) (of_decide_eq_true (by kernel_rfl)) k0 bel lt0) trodAll_mk0),rfl,bel.frame _,fun h=>by cases h⟩
theorem over:Rows.eventWritesUptoRow.holds Tryz.pinned (Rows.OpenSpec.upto Rows.eventWritesSpec):=
 OpenClaim.holds_of_cond 4 Tryz.f4 rfl rfl rfl rfl rfl rfl rfl ⟨rfl,rfl,rfl,rfl,rfl⟩ rfl rfl rfl rfl rfl (by kernel_rfl) Tryz.func4 (by kernel_rfl)
  (of_decide_eq_true (by kernel_rfl)) (by unfold Func.isWrapper;first | (rw[if_pos (by decide+kernel)];kernel_rfl) | (rw[if_neg (by decide+kernel)];exact⟨rfl,rfl⟩))
  (fun os started H enc _ F=>by rw[OpenClaim.pre_eq_preRow];exact lifted os started H enc F)
theorem proved:Rows.EventWritesUptoCardSaid:=
 Claim7.holds_tied_plain_at .later [] [.data,.data,.data,.data,.sentinel,.sentinel,.pinned] true (true, "4c8695eb1ac032b4e716ff44961a2dcfc2aba7512ef385ed2dfdf8b9738e1b27") true over (fun _ h=>by cases h) (by kernel_rfl) (fun _ h=>by cases h) eventWritesUpto_row_tie rfl ⟨rfl,rfl⟩ (by kernel_rfl) rfl
  (fun f fn hf hfn=>by
   obtain rfl:f=4:=Option.some.inj ((show Tryz.prog.funcNamed "kymograph/kymographlaw07.EventWrites" =some 4 by kernel_rfl).symm.trans hf) |>.symm
   obtain rfl:fn=Tryz.f4:=(Option.some.inj (Tryz.func4.symm.trans hfn)).symm
   exact⟨by kernel_rfl,fun j t ht=>by
    rw[Tryz.params4]at ht
    have hm:t∈ [23]:=by simpa using Array.mem_of_getElem? ht
    have hall:([23].all fun u=> !Tryz.prog.wantsStandIn u)=true:=by kernel_rfl
    exact(show Tryz.prog.wantsStandIn t=false by simpa using List.all_eq_true.1 hall t hm)⟩)
  (by kernel_rfl)
#print axioms proved
end Go.Proofs.YtlfjhgamlkbofaaGreatDoor.lawEventWrites
