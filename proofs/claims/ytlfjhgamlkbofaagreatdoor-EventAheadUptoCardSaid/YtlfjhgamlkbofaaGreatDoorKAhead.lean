/-
  The statement Ahead: its walk, and the row (the given condition alone).
-/
import Derived.Test.YtlfjhgamlkbofaaGreatDoorPE6
import Derived.Test.YtlfjhgamlkbofaaGreatDoorRows
import Derived.Test.YtlfjhgamlkbofaaGreatDoorCards
import Derived.Test.YtlfjhgamlkbofaaGreatDoorTie
import Derived.Lay
import Derived.Deep.DeepHandedRow
import Derived.LaidOnce
import Derived.SevenTiedAt
import Derived.WalkKit
import Derived.ProofKit
import Derived.OpenShut
import Derived.ShutString
import Derived.ChangeOld
import Derived.Below
set_option linter.unusedVariables false
set_option linter.unusedSimpArgs false
set_option maxRecDepth 100000
set_option maxHeartbeats 16000000
namespace Go.Proofs.YtlfjhgamlkbofaaGreatDoor
open Go.RowKit Js
theorem zq4 {H:Type} (d:DataW H):1≤Rows.uptoBulk d:=by
 cases d with
 | lit l=>cases l <;> simp[Rows.uptoBulk]
 | _=>simp[Rows.uptoBulk]
theorem zq5 {H:Type} :∀l:List (DataW H),l.length≤Rows.uptoBulkAll l
 | []=>by simp[Rows.uptoBulkAll]
 | x ::r=>by have:=zq4 x;have:=zq5 r;simp only[Rows.uptoBulkAll,List.length_cons];omega
section
open Go.ChangeShapes Go.WideShapes Go.Deep
variable {H:Type} {enc:TypeId×Value→H} {w:World} {base:Nat} {held:Bool}
theorem c1:Tryz.prog.cellsOf 33=1∧Tryz.prog.cellsOf 3=1∧Tryz.prog.cellsOf 9=1∧Tryz.prog.cellsOf 4=1∧Tryz.prog.cellsOf 34=1∧Tryz.prog.cellsOf 77=2∧Tryz.prog.cellsOf 36=8∧Tryz.prog.cellsOf 38=14:=⟨by kernel_rfl,by kernel_rfl,by kernel_rfl,by kernel_rfl,by kernel_rfl,by kernel_rfl,by kernel_rfl,by kernel_rfl⟩
theorem fld_u {n:Nat} {v:Value} {x:DataW H×List MemPlace} (h:DataW.trod enc Tryz.prog w base (fun _=>true) held n 33 [v]=some x):∃u:Nat,v=.int .u64 (u:Nat):=by
 obtain⟨z,e,_,wf⟩:=DataW.trod_int Tryz.underlying33 h
 obtain⟨u,rfl⟩:=Int.eq_ofNat_of_zero_le (bounds_u64 wf).1
 exact⟨u,by simpa using e⟩
theorem fld_i {n:Nat} {v:Value} {x:DataW H×List MemPlace} (h:DataW.trod enc Tryz.prog w base (fun _=>true) held n 3 [v]=some x):∃z:Int,v=.int .i64 z:=by
 obtain⟨z,e,_,wf⟩:=DataW.trod_int Tryz.underlying3 h
 exact⟨z,by simpa using e⟩
theorem fld_s {n:Nat} {v:Value} {x:DataW H×List MemPlace} (h:DataW.trod enc Tryz.prog w base (fun _=>true) held n 9 [v]=some x):∃s:ByteArray,v=.string s∧s.size+1=Rows.uptoBulk x.1:=by
 obtain⟨s,e,rfl,_⟩:=DataW.trod_string Tryz.underlying9 h
 exact⟨s,by simpa using e,by simp only[Rows.uptoBulk,bytes_len]⟩
theorem fld_b {n:Nat} {v:Value} {x:DataW H×List MemPlace} (h:DataW.trod enc Tryz.prog w base (fun _=>true) held n 4 [v]=some x):∃b:Bool,v=.bool b:=by
 obtain⟨b,e,_⟩:=DataW.trod_bool Tryz.underlying4 h
 exact⟨b,by simpa using e⟩
theorem fld_r {n:Nat} {v:Value} {x:DataW H×List MemPlace} (h:DataW.trod enc Tryz.prog w base (fun _=>true) held n 34 [v]=some x):
  ∃(A:Option Addr) (l:List (Nat×Nat)) (c:Nat),v=.slice A l.length c∧l.length≤Rows.uptoBulk x.1∧(l.length≤4611686018427387904→Rngs w A l.length l):=by
 rcases open_slice Tryz.underlying34 h with⟨hcs,rfl⟩ | ⟨a,len,cap,m,n',D,Pl,hcs,_,hl,hm,hmm,rfl,hi⟩
 ·simp only[List.cons.injEq,and_true]at hcs
  exact⟨none,[],0,hcs,Nat.zero_le _,fun _=>Rngs.nil w⟩
 ·simp only[List.cons.injEq,and_true]at hcs
  simp only[if_true]at hmm
  subst hmm
  have hex:∀i,i < len→∃y:Nat×Nat,w.cell? (a.add (i * 2))=some (.int .u64 (y.1:Nat))∧w.cell? (a.add (i * 2+1))=some (.int .u64 (y.2:Nat)):=by
   intro i hil
   obtain⟨cs',hc,ht⟩:=hi i (by omega)
   rw[c1.2.2.2.2.2.1]at hc
   obtain⟨_,hcn,hat⟩:=World.cells?_some hc
   obtain⟨xs,k,_,_,_,hxl,hf⟩:=DataW.trod_struct Tryz.underlying77 ht
   have hxl:xs.length=2:=hxl
   match cs',hcn,xs,hxl with
   | [u,v],_,[y0,y1],_=>
    have t0:DataW.trod enc Tryz.prog w base (fun _=>true) held k 33 (([u,v].drop 0).take (Tryz.prog.cellsOf 33))=some y0:=hf 0 _ rfl
    have t1:DataW.trod enc Tryz.prog w base (fun _=>true) held k 33 (([u,v].drop 1).take (Tryz.prog.cellsOf 33))=some y1:=hf 1 _ rfl
    rw[c1.1]at t0 t1
    obtain⟨u0,rfl⟩:=fld_u (v:=u) t0
    obtain⟨u1,rfl⟩:=fld_u (v:=v) t1
    have h0:=hat 0 (by decide)
    have h1:=hat 1 (by decide)
    rw[Go.Deep.add_add]at h0 h1
    exact⟨(u0,u1),h0,h1⟩
  obtain⟨L,hL,hP⟩:=exists_row hex
  refine⟨some a,L,_,by rw[hcs,hL],?_,fun hbig=>⟨rfl,hbig,?_⟩⟩
  ·simp only[Rows.uptoBulk]
   have:=zq5 ((List.range len).map D)
   rw[List.length_map,List.length_range]at this
   omega
  ·rcases Nat.eq_zero_or_pos len with h0 | h0
   ·exact .inl (by omega)
   ·right
    obtain⟨b,off,spot⟩:=a
    obtain⟨y,hy⟩:∃y,L[0]? =some y:=⟨_,List.getElem?_eq_getElem (by omega)⟩
    have hc0:=(hP 0 y hy).1
    have hspot:spot=none:=by simpa [Addr.add] using World.cell?_spot hc0
    subst hspot
    refine⟨b,off,rfl,World.block_lt_of_cell? w _ hc0,fun i z hz=> ?_⟩
    have h1:=(hP i z hz).1
    have h2:=(hP i z hz).2
    rw[Addr.add_lit]at h1 h2
    exact⟨h1,h2⟩
theorem fld_f {n:Nat} {a6 a7 a8 a9 a10 a11 a12 a13:Value} {x:DataW H×List MemPlace} (h:DataW.trod enc Tryz.prog w base (fun _=>true) held n 36 [a6,a7,a8,a9,a10,a11,a12,a13]=some x):
  ∃(f:Fr) (A:Option Addr) (c:Nat),[a6,a7,a8,a9,a10,a11,a12,a13]= [.int .u64 (f.kind:Nat),.int .u64 (f.a:Nat),.int .u64 (f.b:Nat),.int .u64 (f.c:Nat),.bool f.fin,.string f.data,.string f.more,.slice A f.list.length c]∧
   f.data.size+f.more.size+f.list.length≤Rows.uptoBulk x.1∧(f.list.length≤4611686018427387904→Rngs w A f.list.length f.list):=by
 obtain⟨xs,k,_,rfl,_,hxl,hf⟩:=DataW.trod_struct Tryz.underlying36 h
 have hxl:xs.length=8:=hxl
 match xs,hxl with
 | [y0,y1,y2,y3,y4,y5,y6,y7],_=>
  have t0:DataW.trod enc Tryz.prog w base (fun _=>true) held k 33 (([a6,a7,a8,a9,a10,a11,a12,a13].drop 0).take (Tryz.prog.cellsOf 33))=some y0:=hf 0 _ rfl
  have t1:DataW.trod enc Tryz.prog w base (fun _=>true) held k 33 (([a6,a7,a8,a9,a10,a11,a12,a13].drop 1).take (Tryz.prog.cellsOf 33))=some y1:=hf 1 _ rfl
  have t2:DataW.trod enc Tryz.prog w base (fun _=>true) held k 33 (([a6,a7,a8,a9,a10,a11,a12,a13].drop 2).take (Tryz.prog.cellsOf 33))=some y2:=hf 2 _ rfl
  have t3:DataW.trod enc Tryz.prog w base (fun _=>true) held k 33 (([a6,a7,a8,a9,a10,a11,a12,a13].drop 3).take (Tryz.prog.cellsOf 33))=some y3:=hf 3 _ rfl
  have t4:DataW.trod enc Tryz.prog w base (fun _=>true) held k 4 (([a6,a7,a8,a9,a10,a11,a12,a13].drop 4).take (Tryz.prog.cellsOf 4))=some y4:=hf 4 _ rfl
  have t5:DataW.trod enc Tryz.prog w base (fun _=>true) held k 9 (([a6,a7,a8,a9,a10,a11,a12,a13].drop 5).take (Tryz.prog.cellsOf 9))=some y5:=hf 5 _ rfl
  have t6:DataW.trod enc Tryz.prog w base (fun _=>true) held k 9 (([a6,a7,a8,a9,a10,a11,a12,a13].drop 6).take (Tryz.prog.cellsOf 9))=some y6:=hf 6 _ rfl
  have t7:DataW.trod enc Tryz.prog w base (fun _=>true) held k 34 (([a6,a7,a8,a9,a10,a11,a12,a13].drop 7).take (Tryz.prog.cellsOf 34))=some y7:=hf 7 _ rfl
  rw[c1.1]at t0 t1 t2 t3
  rw[c1.2.2.2.1]at t4
  rw[c1.2.2.1]at t5 t6
  rw[c1.2.2.2.2.1]at t7
  obtain⟨u0,rfl⟩:=fld_u (v:=a6) t0
  obtain⟨u1,rfl⟩:=fld_u (v:=a7) t1
  obtain⟨u2,rfl⟩:=fld_u (v:=a8) t2
  obtain⟨u3,rfl⟩:=fld_u (v:=a9) t3
  obtain⟨fb,rfl⟩:=fld_b (v:=a10) t4
  obtain⟨s5,rfl,e5⟩:=fld_s (v:=a11) t5
  obtain⟨s6,rfl,e6⟩:=fld_s (v:=a12) t6
  obtain⟨A,l,c,rfl,e7,hr⟩:=fld_r (v:=a13) t7
  refine⟨⟨u0,u1,u2,u3,fb,s5,s6,l⟩,A,c,rfl,?_,hr⟩
  simp only[List.map_cons,List.map_nil,Rows.uptoBulk,Rows.uptoBulkAll]
  omega
theorem zq9 (n:Nat) (cs:List Value) (x:DataW H×List MemPlace) (hlen:cs.length=14) (h:DataW.trod enc Tryz.prog w base (fun _=>true) held n 38 cs=some x):
  ∃y:EV,cs=y.cells∧(y.e.f.list.length≤4611686018427387904→Rngs w y.A y.e.f.list.length y.e.f.list)∧esz y.e≤20+Rows.uptoBulk x.1:=by
 obtain⟨xs,k,_,rfl,_,hxl,hf⟩:=DataW.trod_struct Tryz.underlying38 h
 have hxl:xs.length=7:=hxl
 match cs,hlen,xs,hxl with
 | [a0,a1,a2,a3,a4,a5,a6,a7,a8,a9,a10,a11,a12,a13],_,[y0,y1,y2,y3,y4,y5,y6],_=>
  have t0:DataW.trod enc Tryz.prog w base (fun _=>true) held k 3 (([a0,a1,a2,a3,a4,a5,a6,a7,a8,a9,a10,a11,a12,a13].drop 0).take (Tryz.prog.cellsOf 3))=some y0:=hf 0 _ rfl
  have t1:DataW.trod enc Tryz.prog w base (fun _=>true) held k 3 (([a0,a1,a2,a3,a4,a5,a6,a7,a8,a9,a10,a11,a12,a13].drop 1).take (Tryz.prog.cellsOf 3))=some y1:=hf 1 _ rfl
  have t2:DataW.trod enc Tryz.prog w base (fun _=>true) held k 33 (([a0,a1,a2,a3,a4,a5,a6,a7,a8,a9,a10,a11,a12,a13].drop 2).take (Tryz.prog.cellsOf 33))=some y2:=hf 2 _ rfl
  have t3:DataW.trod enc Tryz.prog w base (fun _=>true) held k 33 (([a0,a1,a2,a3,a4,a5,a6,a7,a8,a9,a10,a11,a12,a13].drop 3).take (Tryz.prog.cellsOf 33))=some y3:=hf 3 _ rfl
  have t4:DataW.trod enc Tryz.prog w base (fun _=>true) held k 33 (([a0,a1,a2,a3,a4,a5,a6,a7,a8,a9,a10,a11,a12,a13].drop 4).take (Tryz.prog.cellsOf 33))=some y4:=hf 4 _ rfl
  have t5:DataW.trod enc Tryz.prog w base (fun _=>true) held k 9 (([a0,a1,a2,a3,a4,a5,a6,a7,a8,a9,a10,a11,a12,a13].drop 5).take (Tryz.prog.cellsOf 9))=some y5:=hf 5 _ rfl
  have t6:DataW.trod enc Tryz.prog w base (fun _=>true) held k 36 (([a0,a1,a2,a3,a4,a5,a6,a7,a8,a9,a10,a11,a12,a13].drop 6).take (Tryz.prog.cellsOf 36))=some y6:=hf 6 _ rfl
  rw[c1.2.1]at t0 t1
  rw[c1.1]at t2 t3 t4
  rw[c1.2.2.1]at t5
  rw[c1.2.2.2.2.2.2.1]at t6
  obtain⟨z0,rfl⟩:=fld_i (v:=a0) t0
  obtain⟨z1,rfl⟩:=fld_i (v:=a1) t1
  obtain⟨u2,rfl⟩:=fld_u (v:=a2) t2
  obtain⟨u3,rfl⟩:=fld_u (v:=a3) t3
  obtain⟨u4,rfl⟩:=fld_u (v:=a4) t4
  obtain⟨s5,rfl,e5⟩:=fld_s (v:=a5) t5
  obtain⟨f,A,c,ef,e6,hr⟩:=fld_f (a6:=a6) (a7:=a7) (a8:=a8) (a9:=a9) (a10:=a10) (a11:=a11) (a12:=a12) (a13:=a13) t6
  simp only[List.cons.injEq,and_true]at ef
  obtain⟨rfl,rfl,rfl,rfl,rfl,rfl,rfl,rfl⟩:=ef
  refine⟨⟨⟨z0,z1,u2,u3,u4,s5,f⟩,A,c⟩,rfl,hr,?_⟩
  unfold esz
  simp only[List.map_cons,List.map_nil,Rows.uptoBulk,Rows.uptoBulkAll]
  omega
theorem zq6 {D:Nat→DataW H} :∀(l:List EV),(∀i y,l[i]? =some y→esz y.e≤20+Rows.uptoBulk (D i))→essz (evs l)≤20 * l.length+Rows.uptoBulkAll ((List.range l.length).map D):=by
 intro l
 induction l generalizing D with
 | nil=>intro _;simp[evs,essz]
 | cons x r ih=>
  intro h
  have h0:=h 0 x rfl
  have h1:=ih (D:=fun i=>D (i+1)) (fun i y hy=>h (i+1) y (by simpa using hy))
  have e1:essz (evs (x ::r))=esz x.e+essz (evs r):=by unfold evs essz;simp
  have e2:(List.range (x ::r).length).map D=D 0 ::(List.range r.length).map (fun i=>D (i+1)):=by
   rw[List.length_cons,List.range_succ_eq_map,List.map_cons,List.map_map];rfl
  rw[e1,e2,List.length_cons]
  simp only[Rows.uptoBulkAll]
  omega
theorem zq7 {v:Value} {d:DataW H} {p:List MemPlace} {r:Reach} {b0:Nat} (hv:Value.okWide Tryz.prog w r b0 23 v) (h:DataW.Trod enc Tryz.prog w base (fun _=>true) held 23 v d p) (hb:Rows.uptoBulk d≤1048576):
  ∃(A:Option Addr) (c:Nat) (l:List EV),v=.slice A l.length c∧EIn w A l∧l.length≤c∧l.length≤1048576∧essz (evs l)≤100000000:=by
 obtain⟨a0,n0,c0,rfl⟩:=okWide_slice Tryz.underlying23 hv
 obtain⟨fuel,hf⟩:=h
 have hf:DataW.trod enc Tryz.prog w base (fun _=>true) held fuel 23 [.slice a0 n0 c0]=some (d,p):=hf
 rcases open_slice Tryz.underlying23 hf with⟨hcs,_⟩ | ⟨a,len,cap,m,n,D,Pl,hcs,_,hl,hm,hmm,hx,hi⟩
 ·simp only[List.cons.injEq,and_true]at hcs
  exact⟨none,0,[],hcs,⟨⟨by simp,.inl rfl⟩,by simp⟩,Nat.le_refl _,by simp,by simp[evs,essz]⟩
 ·simp only[List.cons.injEq,and_true]at hcs
  simp only[if_true]at hmm
  subst hmm
  have hex:∀i,i < len→∃y:EV,(∀j u,y.cells[j]? =some u→w.cell? (a.add (i * 14+j))=some u)∧(y.e.f.list.length≤4611686018427387904→Rngs w y.A y.e.f.list.length y.e.f.list)∧esz y.e≤20+Rows.uptoBulk (D i):=by
   intro i hil
   obtain⟨cs',hc,htr⟩:=hi i (by omega)
   rw[c1.2.2.2.2.2.2.2]at hc
   obtain⟨_,hcn,hat⟩:=World.cells?_some hc
   obtain⟨y,rfl,hr,hz⟩:=zq9 _ _ _ hcn htr
   refine⟨y,fun j u hu=> ?_,hr,hz⟩
   have hj:j < 14:=(List.getElem?_eq_some_iff.1 hu).1
   rw[←Go.Deep.add_add,hat j hj,hu]
  obtain⟨L,hL,hP⟩:=exists_row hex
  have hd:d=(.slice ((List.range len).map D) ((List.range (m - len)).map fun j=>D (len+j))):=congrArg Prod.fst hx
  rw[hd]at hb
  simp only[Rows.uptoBulk]at hb
  have hs:=zq6 (D:=D) L (fun i y hy=>(hP i y hy).2.2)
  rw[hL]at hs
  have hln:=zq5 ((List.range len).map D)
  rw[List.length_map,List.length_range]at hln
  refine⟨some a,m,L,by rw[hcs,hL],⟨⟨by omega,?_⟩,fun y hy=> ?_⟩,by omega,by omega,by omega⟩
  ·rcases Nat.eq_zero_or_pos len with h0 | h0
   ·exact .inl (List.eq_nil_of_length_eq_zero (by omega))
   ·right
    obtain⟨b,off,spot⟩:=a
    obtain⟨y,hy⟩:∃y,L[0]? =some y:=⟨_,List.getElem?_eq_getElem (by omega)⟩
    have hc0:=(hP 0 y hy).1 0 _ (show y.cells[0]? =some (.int .i64 y.e.kind)from rfl)
    have hspot:spot=none:=by simpa [Addr.add] using World.cell?_spot hc0
    subst hspot
    refine⟨b,off,rfl,by have h9:=World.block_lt_of_cell? w _ hc0;rw[Addr.add_lit]at h9;exact h9,fun i z hz j u hu=> ?_⟩
    have h1:=(hP i z hz).1 j u hu
    rw[Addr.add_lit,←Nat.add_assoc]at h1
    exact h1
  ·obtain⟨i,hi2⟩:=List.mem_iff_getElem?.1 hy
   have hp:=hP i y hi2
   refine hp.2.1 ?_
   have h1:esz y.e≤essz (evs L):=essz_mem (List.mem_map.2 ⟨y,hy,rfl⟩)
   unfold esz at h1
   omega
end
theorem hup {w v:World} {Q:World→Prop} (h:Hid (∀w',Mod [] w w'→Q w')) (m:Mod [] w v):Hid (∀w',Mod [] v w'→Q w'):=hide fun w' n=>h.out _ (m.trans n (by simp))
theorem zq0 (l:List EV):(l.flatMap EV.cells).length=l.length * 14:=by
 induction l with
 | nil=>rfl
 | cons x l ih=>
  have:x.cells.length=14:=rfl
  rw[List.flatMap_cons,List.length_append,ih,List.length_cons,this];omega
theorem zq1 (l:List EV):∀u∈l.flatMap EV.cells,u.oneCell'=true:=by
 intro u hu
 obtain⟨x,_,hx⟩:=List.mem_flatMap.1 hu
 exact Array.all_eq_true_iff_forall_mem.1 (ecs_one x.A x.e.f.list.length x.c x.e) u (by simpa [EV.cells] using hx)
theorem zq2 {l:List EV} {j:Nat} {u:Value} (h:(l.flatMap EV.cells)[j]? =some u):∃x,l[j / 14]? =some x∧x.cells[j % 14]? =some u:=by
 have hj:=(List.getElem?_eq_some_iff.1 h).1
 rw[zq0]at hj
 have hi:j / 14 < l.length:=by omega
 refine⟨l[j / 14],List.getElem?_eq_getElem hi,?_⟩
 have:=flat_get EV.cells 14 (fun _=>rfl) l (j / 14) (j % 14) _ (List.getElem?_eq_getElem hi) (Nat.mod_lt _ (by decide))
 rw[show j / 14 * 14+j % 14=j by omega]at this
 rw[←this];exact h
theorem zq13 {w:World} {A:Option Addr} {l:List EV} (h:Elems w A EV.cells 14 l) (c:Nat):Src Tryz.prog 14 23 (.slice A l.length c) l.length (l.flatMap EV.cells) w:=by
 rcases h.row with rfl | ⟨g,o,rfl,hg,hc⟩
 ·cases A with
  | none=>exact Src.ofNil w Tryz.underlying23 c
  | some a=>exact Src.ofSlice w Tryz.underlying23 a 0 c [] rfl (fun j u h=>by simp at h) (fun u h=>by simp at h)
 ·refine Src.ofSlice w Tryz.underlying23 _ _ c _ (zq0 l) (fun j u hu=> ?_) (zq1 l)
  obtain⟨x,h1,h2⟩:=zq2 hu
  have:=hc _ x h1 _ u h2
  rw[Addr.add_lit,←this]
  congr 2
  omega
theorem zq11 (w:World) (base:Nat) (v:Value) (n:Nat) (l:List EV) (hnl:l.length=n) (h:w.ownsRow base 38 14 v n (l.flatMap EV.cells)) (hb:base≤w.heap.size) {B:Option Addr} {m:List EV} (hm:Elems w B EV.cells 14 m) (d:Nat) (hn:n+m.length≤100000000):
  ∃A c w',(Builtin.append_ #[23,23] 23 #[v,.slice B m.length d]).run Tryz.prog w=.ok (.slice A (l++ m).length c) w'∧w'.ownsRow base 38 14 (.slice A (l++ m).length c) (l++ m).length ((l++ m).flatMap EV.cells)∧Mod v.ownBlock.toList w w':=by
 obtain⟨i0,hi,hz0,hz1,hz2⟩:=info_split eventInfo
 obtain⟨v',w',h1,h2,h3,h4⟩:=run_app (P:=Tryz.prog) 23 base hi hz1 rfl v n _ h (AppSrc.of_src Tryz.underlying23 hi hz0 hz1 (zq13 hm d)) (by simp only[maxLen];omega) (by rw[hz2];omega) hb
 obtain⟨A,c,rfl⟩:=owned_slice h2
 rw[List.length_append,hnl,List.flatMap_append]
 exact⟨A,c,w',h1,h2,Mod.of_grown h3⟩
theorem zq12 {w:World} {base:Nat} {A:Option Addr} {c:Nat} {l:List EV} (h:w.ownsRow base 38 14 (.slice A l.length c) l.length (l.flatMap EV.cells)) (hl:l.length≤100000000):Elems w A EV.cells 14 l:=by
 refine⟨by omega,?_⟩
 rcases h.2 with⟨h0,h1⟩ | ⟨g,cap,cur,hv,_,hh,_⟩
 ·left
  have:=congrArg (fun v=>match v with | Value.slice _ n _=>n | _=>0) h0
  exact List.eq_nil_of_length_eq_zero this
 ·cases hv
  refine .inr ⟨g,0,rfl,Blk.lt hh,fun i x hx j u hu=> ?_⟩
  have hj:j < 14:=(List.getElem?_eq_some_iff.1 hu).1
  have:=World.ownsRow.cells h (g:=g) rfl (i * 14+j) _ ((flat_get EV.cells 14 (fun _=>rfl) l i j x hx hj).trans hu)
  rw[Addr.add_lit]at this
  rw[Nat.zero_add]
  rw[Nat.zero_add]at this
  exact this
theorem zq10 {w:World} {A B:Option Addr} {l m:List EV} (c d:Nat) (hl:EIn w A l) (hm:EIn w B m) (hn:l.length+m.length≤100000000):
  ∃A1 c1 w1 A2 c2 w2,(Builtin.append_ #[23,23] 23 #[.slice (some ⟨w.heap.size,0,none⟩) 0 0,.slice A l.length c]).run Tryz.prog (w.alloc (.cells #[] 38))=.ok (.slice A1 l.length c1) w1∧
   (Builtin.append_ #[23,23] 23 #[.slice A1 l.length c1,.slice B m.length d]).run Tryz.prog w1=.ok (.slice A2 (l++ m).length c2) w2∧EIn w2 A2 (l++ m)∧Mod [] w w2:=by
 have m0:=(Mod.refl [] w).alloc (.cells #[] 38)
 have own0:(w.alloc (.cells #[] 38)).ownsRow w.heap.size 38 14 (.slice (some ⟨w.heap.size,0,none⟩) 0 0) 0 (([]:List EV).flatMap EV.cells):=
  ⟨rfl,.inr ⟨_,0,#[],rfl,Nat.le_refl _,heap_alloc_new w _,Nat.le_refl _,by simp only[maxLen];omega,rfl,rfl⟩⟩
 obtain⟨A1,c1,w1,r1,o1,m1⟩:=zq11 _ _ _ 0 [] rfl own0 m0.size (hl.els.new m0) c (by omega)
 rw[List.nil_append]at r1 o1
 have m1':Mod [] w w1:=m0.trans m1 (fun x hx=>by
  right
  have:x=w.heap.size:=by simpa [Value.ownBlock] using hx
  omega)
 obtain⟨A2,c2,w2,r2,o2,m2⟩:=zq11 w1 _ _ _ l rfl o1 m1'.size (hm.els.new m1') d hn
 have m2':Mod [] w w2:=m1'.keep m2 o1 (Nat.le_refl _)
 exact⟨A1,c1,w1,A2,c2,w2,r1,r2,⟨zq12 o2 (by rw[List.length_append];omega),fun x hx=>by
  rcases List.mem_append.1 hx with hx | hx
  ·exact(hl.rng x hx).new m2'
  ·exact(hm.rng x hx).new m2'⟩,m2'⟩
section
variable {P:Program} {Q:Exit→Act→World→Prop} {ops:Array Oper}
theorem zq3 (w:World) {rest:List Oper} {o:Oper} {a:Act} (hg:Region.wanted o (yielded ops a.tmps)=true) (s x:Operand) (t tn:TypeId)
  (ho:o.op=.call { callee:=.builtin .append,args:= #[s,x],argTypes:= #[t,tn] }) (vs vx:Value) (hs:a.eval s=vs) (hx:a.eval x=vx)
  (v':Value) (w':World) (hr:(Builtin.append_ #[t,tn] o.type #[vs,vx]).run P w=.ok v' w') (h:wpList P ops Q rest (a.put o.dst v') w'):wpList P ops Q (o ::rest) a w:=
 wpList_step fun K hK=>by
  rw[if_pos hg]
  exact Lib.wp_append_run w s x t tn ho vs vx hs hx v' w' hr (hK _ _ h)
end
theorem zq8 (W:World) (A:Option Addr) (c:Nat) (l:List EV) (s:ByteArray) (h:EIn W A l) (hb:essz (evs l)≤4611686018427387904) (B:Nat) (hB:B≤W.heap.size) (hj:JVars B W):Calls Tryz.prog 8 #[.slice A l.length c,.string s] W (RPost W true):=by
 have HJ:=hide (fun w' (m:Mod [] W w')=>hj.mod m hB (by simp))
 have HZ:=hide (fun w' (m:Mod [] W w')=>Nat.le_trans hB m.size)
 have HM0:=hide (Mod.refl [] W)
 clear hj hB
 have HE:=hide (fun w' (m:Mod [] W w')=>h.new m)
 have HLb:=hide hb
 clear h hb
 by_cases hl:4096 < essz (evs l)
 ·go_enter Tryz.func8,Tryz.ntmps8
  go_wp2_with fail
  refine(awake_any W B (HZ.out _ HM0.out) (HJ.out _ HM0.out)).mono ?_
  rintro e0 w1 ⟨rfl,m0⟩
  have HM1:=hide (HM0.out.trans m0 (by simp))
  clear m0
  go_wp2_with fail
  refine(large_any w1 A c l (HE.out _ HM1.out) HLb.out true (decide_eq_true hl)).mono ?_
  rintro e0 w2 ⟨rfl,m0⟩
  have HM2:=hide (HM1.out.trans m0 (by simp))
  clear m0
  go_wp2_with fail
  go_ret
  exact⟨rfl,HM2.out⟩
 by_cases hs:4096 < s.size
 ·have f1:(4096:Int) < s.size:=by omega
  go_enter Tryz.func8,Tryz.ntmps8
  go_wp2_with fail
  refine(awake_any W B (HZ.out _ HM0.out) (HJ.out _ HM0.out)).mono ?_
  rintro e0 w1 ⟨rfl,m0⟩
  have HM1:=hide (HM0.out.trans m0 (by simp))
  clear m0
  go_wp2_with fail
  refine(large_any w1 A c l (HE.out _ HM1.out) HLb.out false (decide_eq_false hl)).mono ?_
  rintro e0 w2 ⟨rfl,m0⟩
  have HM2:=hide (HM1.out.trans m0 (by simp))
  clear m0
  go_wp2_with fail
  go_ret
  exact⟨rfl,HM2.out⟩
 have hl':essz (evs l)≤4096:=by omega
 have HL:=hide hl'
 have HNl:=hide (all_len hl')
 have HSs:Hid (s.size≤4096):=hide (by omega)
 have f1:¬(4096:Int) < s.size:=by omega
 clear hl'
 go_enter Tryz.func8,Tryz.ntmps8
 go_wp2_with fail
 refine(awake_any W B (HZ.out _ HM0.out) (HJ.out _ HM0.out)).mono ?_
 rintro e0 w1 ⟨rfl,m0⟩
 have HM1:=hide (HM0.out.trans m0 (by simp))
 clear m0
 go_wp2_with fail
 refine(large_any w1 A c l (HE.out _ HM1.out) HLb.out false (decide_eq_false hl)).mono ?_
 rintro e0 w2 ⟨rfl,m0⟩
 have HM2:=hide (HM1.out.trans m0 (by simp))
 clear hl
 clear m0
 go_wp2_with fail
 clear f1 hs
 have HB:=hide (fun w' (m:Mod [] W w')=>bin_any w' A c l (HE.out _ m) (by have:=HNl.out;omega))
 have HS:=hide (fun w' (m:Mod [] W w')=>seq_any w' A c l (HE.out _ m) (by have:=HNl.out;omega) B (HZ.out _ m) (HJ.out _ m))
 cases hm:mayE l with
 | false=>
  rw[told_no hm]at HB HS
  clear hm
  refine(HB.out _ HM2.out).mono ?_
  rintro e0 w3 ⟨rfl,m0⟩
  have HM3:=hide (HM2.out.trans m0 (by simp))
  clear m0
  go_wp2_with fail
  refine(HS.out _ HM3.out).mono ?_
  rintro e0 w4 ⟨rfl,m0⟩
  have HM4:=hide (HM3.out.trans m0 (by simp))
  clear m0
  go_wp2_with fail
  go_ret
  exact⟨rfl,HM4.out⟩
 | true=>
  obtain⟨D,hD,hDl,hDs⟩:= @told_at eone l hm
  obtain⟨T,hT,hTl,hTs⟩:= @told_at srec l hm
  have hal:=mayE_all hm
  have hb2:=bins_len HL.out hal
  have hs2:=seqs_len HL.out hal
  have HRb:=hide (rtell_app ereads (evs l) hal s.data.toList)
  have HRs:=hide (rtell_app sreads (evs l) hal s.data.toList)
  rw[←hDl]at HRb
  rw[←hTl]at HRs
  have hda:D.data.toList++ s.data.toList=(D++ s).data.toList:=by simp
  have hta:T.data.toList++ s.data.toList=(T++ s).data.toList:=by simp
  rw[hda]at HRb
  rw[hta]at HRs
  rw[bytes_len]at HRb HRs
  have HDs:Hid (D.size≤8200000):=hide (by omega)
  have HTs:Hid (T.size≤300000):=hide (by omega)
  have g1:¬9223372036854775807 < D.size+s.size:=by have:=HSs.out;omega
  have g2:¬9223372036854775807 < T.size+s.size:=by have:=HSs.out;omega
  have HSz:Hid (∀n,4096≤n→s.size≤n):=hide (fun n h=>Nat.le_trans HSs.out h)
  have HNa:Hid (∀n,n≤s.size→l.length+n≤100000000):=hide (fun n h=>by have:=HNl.out;have:=HSs.out;omega)
  have HDx:Hid ((D++ s).size≤10000000):=hide (by rw[ByteArray.size_append];have:=HSs.out;omega)
  have HTx:Hid ((T++ s).size≤1000000):=hide (by rw[ByteArray.size_append];have:=HSs.out;omega)
  have HCb:=hide (rtell_cases ereads s.data.toList)
  have HCs:=hide (rtell_cases sreads s.data.toList)
  rw[hD]at HB
  rw[hT]at HS
  clear hda hta hD hT hDl hTl hDs hTs hal hb2 hs2 hm
  refine(HB.out _ HM2.out).mono ?_
  rintro e0 w3 ⟨rfl,m0⟩
  have HM3:=hide (HM2.out.trans m0 (by simp))
  clear m0
  go_wp2_with fail
  refine(HS.out _ HM3.out).mono ?_
  rintro e0 w4 ⟨rfl,m0⟩
  have HM4:=hide (HM3.out.trans m0 (by simp))
  clear m0
  go_wp2_with fail
  clear HB HS
  rcases HCb.out with⟨p,hr,hal⟩ | ⟨k,hk,hr⟩
  ·rw[hr]at HRb
   simp only[if_true]at HRb
   have HR:=hide hr
   clear hr hal
   refine(rbin_ok (w:=w4) (HSz.out _ (by decide)) HR.out).mono ?_
   rintro e0 w5 ⟨A1,c1,l1,rfl,h0,e1,n1,m0⟩
   have HM5:=hide (HM4.out.trans m0 (by simp))
   have HE1:=hide (fun w' (m:Mod [] w5 w')=>h0.new m)
   have HQ1:=hide e1
   have HK1:=hide n1
   clear h0 e1 n1
   clear m0
   go_wp2_with fail
   refine(rbin_ok (w:=w5) HDx.out HRb.out).mono ?_
   rintro e0 w6 ⟨A2,c2,l2,rfl,h0,e1,n1,m0⟩
   have HM6:=hide (HM5.out.trans m0 (by simp))
   have HE2:=hide (fun w' (m:Mod [] w6 w')=>h0.new m)
   have HQ2:=hide e1
   have HK2:=hide n1
   clear h0 e1 n1
   replace HE1:=hup HE1 m0
   clear m0
   go_wp2_with fail
   clear HR
   rcases HCs.out with⟨q,hr,hal⟩ | ⟨j,hj,hr⟩
   ·rw[hr]at HRs
    simp only[if_true]at HRs
    have HR:=hide hr
    clear hr hal
    refine(rseq_ok (w:=w6) (HSz.out _ (by decide)) (HZ.out _ HM6.out) (HJ.out _ HM6.out) HR.out).mono ?_
    rintro e0 w7 ⟨A3,c3,l3,rfl,h0,e1,n1,m0⟩
    have HM7:=hide (HM6.out.trans m0 (by simp))
    have HE3:=hide (fun w' (m:Mod [] w7 w')=>h0.new m)
    have HQ3:=hide e1
    have HK3:=hide n1
    clear h0 e1 n1
    replace HE1:=hup HE1 m0
    replace HE2:=hup HE2 m0
    clear m0
    go_wp2_with fail
    refine(rseq_ok (w:=w7) HTx.out (HZ.out _ HM7.out) (HJ.out _ HM7.out) HRs.out).mono ?_
    rintro e0 w8 ⟨A4,c4,l4,rfl,h0,e1,n1,m0⟩
    have HM8:=hide (HM7.out.trans m0 (by simp))
    have HE4:=hide (fun w' (m:Mod [] w8 w')=>h0.new m)
    have HQ4:=hide e1
    have HK4:=hide n1
    clear h0 e1 n1
    replace HE1:=hup HE1 m0
    replace HE2:=hup HE2 m0
    replace HE3:=hup HE3 m0
    have HN:Hid (l.length+l1.length≤100000000):=hide (HNa.out _ HK1.out)
    obtain⟨J1,j1,u1,K1,k1,v1,ja,jb,je,jm⟩:=zq10 (w:=w8) c c1 (HE.out _ HM8.out) (HE1.out _ (Mod.refl _ w8)) (by have:=HN.out;omega)
    obtain⟨q1,hq⟩:∃q,l++ l1=q:=⟨_,rfl⟩
    rw[hq]at jb je
    have HQq1:=hide hq
    clear hq
    have HJa1:=hide ja
    have HJb1:=hide jb
    have HJe1:=hide je
    have HJm1:=hide jm
    clear ja jb je jm
    clear m0
    go_wp2_with (first | (at_builtin;refine zq3 _ (by kernel_rfl) (.tmp 86) (.tmp 87) 23 23 rfl (.slice (some ⟨w8.heap.size,0,none⟩) 0 0) (.slice A l.length c) rfl rfl (.slice J1 l.length j1) u1 HJa1.out ?_) | (at_builtin;refine zq3 _ (by kernel_rfl) (.tmp 88) (.tmp 89) 23 23 rfl (.slice J1 l.length j1) (.slice A1 l1.length c1) rfl rfl (.slice K1 q1.length k1) v1 HJb1.out ?_))
    have HE1z:=hide (HE2.out _ HJm1.out)
    have HE3:=hup HE3 HJm1.out
    have HE4:=hup HE4 HJm1.out
    have HM9:=hide (HM8.out.trans HJm1.out (by simp))
    refine(r7sameall_any v1 A2 K1 c2 k1 l2 q1 HE1z.out HJe1.out true (by simp[HQ2.out,←HQq1.out,evs_app,HQ1.out])).mono ?_
    rintro e0 w10 ⟨rfl,m0⟩
    have HM10:=hide (HM9.out.trans m0 (by simp))
    have HN:Hid (l.length+l3.length≤100000000):=hide (HNa.out _ HK3.out)
    have HE4z:=hide (HE4.out _ m0)
    obtain⟨J2,j2,u2,K2,k2,v2,ja,jb,je,jm⟩:=zq10 (w:=w10) c c3 (HE.out _ HM10.out) (HE3.out _ m0) (by have:=HN.out;omega)
    obtain⟨q2,hq⟩:∃q,l++ l3=q:=⟨_,rfl⟩
    rw[hq]at jb je
    have HQq2:=hide hq
    clear hq
    have HJa2:=hide ja
    have HJb2:=hide jb
    have HJe2:=hide je
    have HJm2:=hide jm
    clear ja jb je jm
    clear m0
    go_wp2_with (first | (at_builtin;refine Lib.wpList_append_run _ rfl (.tmp 109) (.tmp 110) 23 23 rfl (.slice (some ⟨w10.heap.size,0,none⟩) 0 0) (.slice A l.length c) rfl rfl (.slice J2 l.length j2) u2 HJa2.out ?_) | (at_builtin;refine Lib.wpList_append_run _ rfl (.tmp 111) (.tmp 112) 23 23 rfl (.slice J2 l.length j2) (.slice A3 l3.length c3) rfl rfl (.slice K2 q2.length k2) v2 HJb2.out ?_))
    replace HE4:=hide (fun w' (m:Mod [] w10 w')=>HE4z.out.new m)
    have HM11:=hide (HM10.out.trans HJm2.out (by simp))
    refine(r7sameall_any v2 A4 K2 c4 k2 l4 q2 (HE4.out _ HJm2.out) HJe2.out true (by simp[HQ4.out,←HQq2.out,evs_app,HQ3.out])).mono ?_
    rintro e0 w12 ⟨rfl,m0⟩
    have HM12:=hide (HM11.out.trans m0 (by simp))
    clear m0
    go_wp2_with fail
    go_ret
    exact⟨rfl,HM12.out⟩
   ·rw[hr]at HRs
    simp only[show ¬(2:Int)=0 by decide,if_false]at HRs
    have HR:=hide hr
    have hj2:j < 4096:=by have:=HSs.out;rw[bytes_len]at hj;omega
    have a2:IntKind.i64.wrap ((T.size:Int)+(j:Int))=(T.size:Int)+(j:Int):=IntWalk.i64_in _ (by have:=HTs.out;omega)
    clear hr hj
    refine(rseq_no (w:=w6) (HSz.out _ (by decide)) (HZ.out _ HM6.out) (HJ.out _ HM6.out) HR.out).mono ?_
    rintro e0 w7 ⟨A3,c3,rfl,m0⟩
    have HM7:=hide (HM6.out.trans m0 (by simp))
    replace HE1:=hup HE1 m0
    replace HE2:=hup HE2 m0
    clear m0
    go_wp2_with fail
    refine(rseq_no (w:=w7) HTx.out (HZ.out _ HM7.out) (HJ.out _ HM7.out) HRs.out).mono ?_
    rintro e0 w8 ⟨A4,c4,rfl,m0⟩
    have HM8:=hide (HM7.out.trans m0 (by simp))
    replace HE1:=hup HE1 m0
    replace HE2:=hup HE2 m0
    have HN:Hid (l.length+l1.length≤100000000):=hide (HNa.out _ HK1.out)
    obtain⟨J1,j1,u1,K1,k1,v1,ja,jb,je,jm⟩:=zq10 (w:=w8) c c1 (HE.out _ HM8.out) (HE1.out _ (Mod.refl _ w8)) (by have:=HN.out;omega)
    obtain⟨q1,hq⟩:∃q,l++ l1=q:=⟨_,rfl⟩
    rw[hq]at jb je
    have HQq1:=hide hq
    clear hq
    have HJa1:=hide ja
    have HJb1:=hide jb
    have HJe1:=hide je
    have HJm1:=hide jm
    clear ja jb je jm
    clear m0
    go_wp2_with (first | (at_builtin;refine zq3 _ (by kernel_rfl) (.tmp 86) (.tmp 87) 23 23 rfl (.slice (some ⟨w8.heap.size,0,none⟩) 0 0) (.slice A l.length c) rfl rfl (.slice J1 l.length j1) u1 HJa1.out ?_) | (at_builtin;refine zq3 _ (by kernel_rfl) (.tmp 88) (.tmp 89) 23 23 rfl (.slice J1 l.length j1) (.slice A1 l1.length c1) rfl rfl (.slice K1 q1.length k1) v1 HJb1.out ?_))
    have HE1z:=hide (HE2.out _ HJm1.out)
    have HM9:=hide (HM8.out.trans HJm1.out (by simp))
    refine(r7sameall_any v1 A2 K1 c2 k1 l2 q1 HE1z.out HJe1.out true (by simp[HQ2.out,←HQq1.out,evs_app,HQ1.out])).mono ?_
    rintro e0 w10 ⟨rfl,m0⟩
    have HM10:=hide (HM9.out.trans m0 (by simp))
    clear m0
    go_wp2_with fail
    go_ret
    exact⟨rfl,HM10.out⟩
  ·rw[hr]at HRb
   simp only[show ¬(2:Int)=0 by decide,if_false]at HRb
   have HR:=hide hr
   have hk2:k < 4096:=by have:=HSs.out;rw[bytes_len]at hk;omega
   have a1:IntKind.i64.wrap ((D.size:Int)+(k:Int))=(D.size:Int)+(k:Int):=IntWalk.i64_in _ (by have:=HDs.out;omega)
   clear hr hk
   refine(rbin_no (w:=w4) (HSz.out _ (by decide)) HR.out).mono ?_
   rintro e0 w5 ⟨A1,c1,rfl,m0⟩
   have HM5:=hide (HM4.out.trans m0 (by simp))
   clear m0
   go_wp2_with fail
   refine(rbin_no (w:=w5) HDx.out HRb.out).mono ?_
   rintro e0 w6 ⟨A2,c2,rfl,m0⟩
   have HM6:=hide (HM5.out.trans m0 (by simp))
   clear m0
   go_wp2_with fail
   clear HR
   rcases HCs.out with⟨q,hr,hal⟩ | ⟨j,hj,hr⟩
   ·rw[hr]at HRs
    simp only[if_true]at HRs
    have HR:=hide hr
    clear hr hal
    refine(rseq_ok (w:=w6) (HSz.out _ (by decide)) (HZ.out _ HM6.out) (HJ.out _ HM6.out) HR.out).mono ?_
    rintro e0 w7 ⟨A3,c3,l3,rfl,h0,e1,n1,m0⟩
    have HM7:=hide (HM6.out.trans m0 (by simp))
    have HE3:=hide (fun w' (m:Mod [] w7 w')=>h0.new m)
    have HQ3:=hide e1
    have HK3:=hide n1
    clear h0 e1 n1
    clear m0
    go_wp2_with fail
    refine(rseq_ok (w:=w7) HTx.out (HZ.out _ HM7.out) (HJ.out _ HM7.out) HRs.out).mono ?_
    rintro e0 w8 ⟨A4,c4,l4,rfl,h0,e1,n1,m0⟩
    have HM8:=hide (HM7.out.trans m0 (by simp))
    have HE4:=hide (fun w' (m:Mod [] w8 w')=>h0.new m)
    have HQ4:=hide e1
    have HK4:=hide n1
    clear h0 e1 n1
    replace HE3:=hup HE3 m0
    have HN:Hid (l.length+l3.length≤100000000):=hide (HNa.out _ HK3.out)
    obtain⟨J2,j2,u2,K2,k2,v2,ja,jb,je,jm⟩:=zq10 (w:=w8) c c3 (HE.out _ HM8.out) (HE3.out _ (Mod.refl _ w8)) (by have:=HN.out;omega)
    obtain⟨q2,hq⟩:∃q,l++ l3=q:=⟨_,rfl⟩
    rw[hq]at jb je
    have HQq2:=hide hq
    clear hq
    have HJa2:=hide ja
    have HJb2:=hide jb
    have HJe2:=hide je
    have HJm2:=hide jm
    clear ja jb je jm
    clear m0
    go_wp2_with (first | (at_builtin;refine Lib.wpList_append_run _ rfl (.tmp 109) (.tmp 110) 23 23 rfl (.slice (some ⟨w8.heap.size,0,none⟩) 0 0) (.slice A l.length c) rfl rfl (.slice J2 l.length j2) u2 HJa2.out ?_) | (at_builtin;refine Lib.wpList_append_run _ rfl (.tmp 111) (.tmp 112) 23 23 rfl (.slice J2 l.length j2) (.slice A3 l3.length c3) rfl rfl (.slice K2 q2.length k2) v2 HJb2.out ?_))
    have HM9:=hide (HM8.out.trans HJm2.out (by simp))
    refine(r7sameall_any v2 A4 K2 c4 k2 l4 q2 (HE4.out _ HJm2.out) HJe2.out true (by simp[HQ4.out,←HQq2.out,evs_app,HQ3.out])).mono ?_
    rintro e0 w10 ⟨rfl,m0⟩
    have HM10:=hide (HM9.out.trans m0 (by simp))
    clear m0
    go_wp2_with fail
    go_ret
    exact⟨rfl,HM10.out⟩
   ·rw[hr]at HRs
    simp only[show ¬(2:Int)=0 by decide,if_false]at HRs
    have HR:=hide hr
    have hj2:j < 4096:=by have:=HSs.out;rw[bytes_len]at hj;omega
    have a2:IntKind.i64.wrap ((T.size:Int)+(j:Int))=(T.size:Int)+(j:Int):=IntWalk.i64_in _ (by have:=HTs.out;omega)
    clear hr hj
    refine(rseq_no (w:=w6) (HSz.out _ (by decide)) (HZ.out _ HM6.out) (HJ.out _ HM6.out) HR.out).mono ?_
    rintro e0 w7 ⟨A3,c3,rfl,m0⟩
    have HM7:=hide (HM6.out.trans m0 (by simp))
    clear m0
    go_wp2_with fail
    refine(rseq_no (w:=w7) HTx.out (HZ.out _ HM7.out) (HJ.out _ HM7.out) HRs.out).mono ?_
    rintro e0 w8 ⟨A4,c4,rfl,m0⟩
    have HM8:=hide (HM7.out.trans m0 (by simp))
    clear m0
    go_wp2_with fail
    go_ret
    exact⟨rfl,HM8.out⟩
end Go.Proofs.YtlfjhgamlkbofaaGreatDoor
namespace Go.Proofs.YtlfjhgamlkbofaaGreatDoor.lawEventAhead
open Go.ChangeShapes Go.WideShapes Go.ChangeAt Go.RowKit
open Go.ChangeMaps (open_string shut_string)
theorem own:ownKnob Tryz.prog.godebug=none:=by kernel_rfl
theorem laidOut:laidOutB Tryz.prog=true:=by kernel_rfl
theorem wit (os : Os) {H : Type} (enc : TypeId × Value → H) : ∃ (w : World) (tape : Tape) (i : Input), w.os = os ∧ (w.forCall tape i).Shaped Tryz.checked.prog ∧ i.vars = [] ∧ Input.okWide Tryz.checked.prog (w.forCall tape i) .any w.heap.size 8 i ∧
      (Rows.OpenSpec.upto Rows.eventAheadSpec).preRow enc Tryz.checked.prog Tryz.f8 Rows.eventAheadUptoRow.domain false Rows.eventAheadUptoRow.laid (w.forCall tape i).memory i.args ∧ ({} : Assume).holds Tryz.checked.prog (lone (Frame.enter Tryz.checked.prog 8 i.args .normal) [] (w.forCall tape i)) := by
  obtain ⟨places, hx⟩ : ∃ places, DataW.whole enc Tryz.prog ((World.laidAll Tryz.prog os Rows.eventAheadUptoRow.laid).forCall (fun _ _ => 0) ⟨#[], #[.slice none 0 0, .string ⟨#[]⟩], []⟩).memory Tryz.f8.params.toList Rows.eventAheadSpec.vars false (#[.slice none 0 0, .string ⟨#[]⟩] : Array Value).toList 8 = some ([.nil, .lit (.string [])], [], places) := ⟨[], by kernel_rfl⟩
  have hok : Input.okWideB Tryz.prog ((World.laidAll Tryz.prog os Rows.eventAheadUptoRow.laid).forCall (fun _ _ => 0) ⟨#[], #[.slice none 0 0, .string ⟨#[]⟩], []⟩) 8 ⟨#[], #[.slice none 0 0, .string ⟨#[]⟩], []⟩ = true := by kernel_rfl
  exact ⟨World.laidAll Tryz.prog os Rows.eventAheadUptoRow.laid, fun _ _ => 0, ⟨#[], #[.slice none 0 0, .string ⟨#[]⟩], []⟩, World.laidAll_os _ _ _, World.shaped_of_ZipB (by kernel_rfl) (by kernel_rfl), (Input.okWide_of_okWideB (base := 0) hok).1, (Input.okWide_of_okWideB hok).2,
    OpenSpec.preRow_of_cond 8 hx (by kernel_rfl) (fun k hk => by cases hk; kernel_rfl) (by kernel_rfl) (by rw [MakeChecks.laidMetH_plain _ _ _ (by kernel_rfl)]; exact laidMet_laidAll _ (by kernel_rfl) (by kernel_rfl)),
    by simp only [Assume.holds]; exact ⟨by simp, by simp, fun _ => Modest.zero, by simp, by simp⟩⟩
theorem lifted (os:Os) (started:os.Started) (H:Type) (enc:TypeId×Value→H) (F:Stop.Interp):
  ReturnsInHanded {} Tryz.checked os 8 .any ((Rows.OpenSpec.upto Rows.eventAheadSpec).preRow enc Tryz.prog Tryz.f8 Rows.eventAheadUptoRow.domain false Rows.eventAheadUptoRow.laid)
   (((Rows.OpenSpec.upto Rows.eventAheadSpec).at F).post enc Tryz.prog Tryz.f8 false true false false):=by
 refine returnsInHanded_of_row (C:=Tryz.checked) (s:=Rows.OpenSpec.upto Rows.eventAheadSpec) own started (by kernel_rfl) Tryz.func8 (wit os enc) ?_
 intro W base args ds gs before hval0 hW hcnd hk hsz0 hlaid _ _
 have hval:∀(j:Nat) t v,Tryz.f8.params[j]? =some t→args[j]? =some v→Value.okWide Tryz.prog W .any base t v:=hval0
 have hW':=hW
 obtain⟨p,q,hA0,hV,rfl,hfz,hnd⟩:=hW
 have hA:DataW.TrodAll enc Tryz.prog W 0 (fun _=>true) true Tryz.f8.params.toList args.toList ds p:=hA0
 rw[Tryz.params8]at hA hval
 obtain⟨v0,vs0,d0,ds0,p0,q0,hargs,rfl,rfl,h0,r0⟩:=trodAll_cons hA
 obtain⟨v1,vs1,d1,ds1,p1,q1,rfl,rfl,rfl,h1,r1⟩:=trodAll_cons r0
 obtain⟨rfl,rfl,rfl⟩:=trodAll_nil r1
 obtain rfl:args= #[v0,v1]:=by cases args;simp_all
 obtain⟨rfl,rfl⟩:=trodVars_none hV
 have hbb:=of_decide_eq_true (hk _ rfl)
 simp only[List.append_nil,Rows.uptoBulkAll]at hbb
 have hb0:Rows.uptoBulk d0≤1048576:=by omega
 have k0:=h0
 have lt0:∀x∈p0,x.block < W.heap.size:=by obtain⟨m,hm⟩:=k0;exact DataW.trod_lt m _ _ _ hm
 obtain⟨A0,c0,l0,rfl,hx0,hp0,hn0,hz0⟩:=zq7 (hval 0 23 v0 rfl rfl) h0 hb0
 obtain⟨x1,rfl,rfl,rfl,ws1⟩:=open_string Tryz.underlying9 (hval 1 9 v1 rfl rfl) h1
 clear hA0 hval0
 refine(zq8 W A0 c0 l0 x1 hx0 (by omega) W.heap.size (Nat.le_refl _) (jvars_of_laid hlaid)).mono fun e W' ⟨he,bel0⟩=> ?_
 have bel:=bel0.below (Nat.le_refl _) (by simp)
 subst he
 exact⟨_,rfl,_,_,_,[],_,[],hW',trodAll_mk1 (shut_bool Tryz.underlying4 _),(trodAll_cons_mk (Below.trod laidOut (by kernel_rfl) (of_decide_eq_true (by kernel_rfl)) k0 bel lt0) (trodAll_cons_mk (shut_string Tryz.underlying9 ws1) trodAll_mk0)),rfl,bel.frame _,fun h=>by cases h⟩
theorem over:Rows.eventAheadUptoRow.holds Tryz.pinned (Rows.OpenSpec.upto Rows.eventAheadSpec):=
 OpenClaim.holds_of_cond 8 Tryz.f8 rfl rfl rfl rfl rfl rfl rfl ⟨rfl,rfl,rfl,rfl,rfl⟩ rfl rfl rfl rfl rfl (by kernel_rfl) Tryz.func8 (by kernel_rfl)
  (of_decide_eq_true (by kernel_rfl)) (by unfold Func.isWrapper;first | (rw[if_pos (by decide+kernel)];kernel_rfl) | (rw[if_neg (by decide+kernel)];exact⟨rfl,rfl⟩))
  (fun os started H enc _ F=>by rw[OpenClaim.pre_eq_preRow];exact lifted os started H enc F)
theorem proved:Rows.EventAheadUptoCardSaid:=
 Claim7.holds_tied_plain_at .later [] [.data,.data,.data,.data,.sentinel,.sentinel,.pinned] true (true, "4c8695eb1ac032b4e716ff44961a2dcfc2aba7512ef385ed2dfdf8b9738e1b27") true over (fun _ h=>by cases h) (by kernel_rfl) (fun _ h=>by cases h) eventAheadUpto_row_tie rfl ⟨rfl,rfl⟩ (by kernel_rfl) rfl
  (fun f fn hf hfn=>by
   obtain rfl:f=8:=Option.some.inj ((show Tryz.prog.funcNamed "kymograph/kymographlaw07.EventAhead" =some 8 by kernel_rfl).symm.trans hf) |>.symm
   obtain rfl:fn=Tryz.f8:=(Option.some.inj (Tryz.func8.symm.trans hfn)).symm
   exact⟨by kernel_rfl,fun j t ht=>by
    rw[Tryz.params8]at ht
    have hm:t∈ [23,9]:=by simpa using Array.mem_of_getElem? ht
    have hall:([23,9].all fun u=> !Tryz.prog.wantsStandIn u)=true:=by kernel_rfl
    exact(show Tryz.prog.wantsStandIn t=false by simpa using List.all_eq_true.1 hall t hm)⟩)
  (by kernel_rfl)
#print axioms proved
end Go.Proofs.YtlfjhgamlkbofaaGreatDoor.lawEventAhead
