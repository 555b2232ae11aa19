/-
  The statement Joins: what its walk needs beyond the shared contracts, its walk, and the walk brought to the given statement; no condition.
-/
import Derived.Test.YtlfjhgamlkbofaaGreatDoorPE6
import Derived.Test.YtlfjhgamlkbofaaGreatDoorRows
import Derived.Test.YtlfjhgamlkbofaaGreatDoorCards
import Derived.Test.YtlfjhgamlkbofaaGreatDoorTie
import Derived.Lay
import Derived.Deep.DeepHandedRow
import Derived.LaidOnce
import Derived.SevenTiedAt
import Derived.WalkKit
import Derived.ProofKit
import Derived.OpenShut
import Derived.ShutString
import Derived.ChangeOld
import Derived.Below
set_option linter.unusedVariables false
set_option linter.unusedSimpArgs false
set_option linter.unnecessarySimpa false
set_option maxRecDepth 100000
set_option maxHeartbeats 16000000
namespace Go.Proofs.YtlfjhgamlkbofaaGreatDoor
open Go.RowKit Js
theorem bulk_one {H:Type} (d:DataW H):1≤Rows.uptoBulk d:=by
 cases d with
 | lit l=>cases l <;> simp[Rows.uptoBulk]
 | _=>simp[Rows.uptoBulk]
theorem bulk_len {H:Type} :∀l:List (DataW H),l.length≤Rows.uptoBulkAll l
 | []=>by simp[Rows.uptoBulkAll]
 | x ::r=>by have:=bulk_one x;have:=bulk_len r;simp only[Rows.uptoBulkAll,List.length_cons];omega
section
open Go.ChangeShapes Go.WideShapes Go.Deep
variable {H:Type} {enc:TypeId×Value→H} {w:World} {base:Nat} {held:Bool}
theorem c1:Tryz.prog.cellsOf 33=1∧Tryz.prog.cellsOf 3=1∧Tryz.prog.cellsOf 9=1∧Tryz.prog.cellsOf 4=1∧Tryz.prog.cellsOf 34=1∧Tryz.prog.cellsOf 77=2∧Tryz.prog.cellsOf 36=8∧Tryz.prog.cellsOf 38=14:=⟨by kernel_rfl,by kernel_rfl,by kernel_rfl,by kernel_rfl,by kernel_rfl,by kernel_rfl,by kernel_rfl,by kernel_rfl⟩
theorem fld_u {n:Nat} {v:Value} {x:DataW H×List MemPlace} (h:DataW.trod enc Tryz.prog w base (fun _=>true) held n 33 [v]=some x):∃u:Nat,v=.int .u64 (u:Nat):=by
 obtain⟨z,e,_,wf⟩:=DataW.trod_int Tryz.underlying33 h
 obtain⟨u,rfl⟩:=Int.eq_ofNat_of_zero_le (bounds_u64 wf).1
 exact⟨u,by simpa using e⟩
theorem fld_i {n:Nat} {v:Value} {x:DataW H×List MemPlace} (h:DataW.trod enc Tryz.prog w base (fun _=>true) held n 3 [v]=some x):∃z:Int,v=.int .i64 z:=by
 obtain⟨z,e,_,wf⟩:=DataW.trod_int Tryz.underlying3 h
 exact⟨z,by simpa using e⟩
theorem fld_s {n:Nat} {v:Value} {x:DataW H×List MemPlace} (h:DataW.trod enc Tryz.prog w base (fun _=>true) held n 9 [v]=some x):∃s:ByteArray,v=.string s∧s.size+1=Rows.uptoBulk x.1:=by
 obtain⟨s,e,rfl,_⟩:=DataW.trod_string Tryz.underlying9 h
 exact⟨s,by simpa using e,by simp only[Rows.uptoBulk,bytes_len]⟩
theorem fld_b {n:Nat} {v:Value} {x:DataW H×List MemPlace} (h:DataW.trod enc Tryz.prog w base (fun _=>true) held n 4 [v]=some x):∃b:Bool,v=.bool b:=by
 obtain⟨b,e,_⟩:=DataW.trod_bool Tryz.underlying4 h
 exact⟨b,by simpa using e⟩
theorem fld_r {n:Nat} {v:Value} {x:DataW H×List MemPlace} (h:DataW.trod enc Tryz.prog w base (fun _=>true) held n 34 [v]=some x):
  ∃(A:Option Addr) (l:List (Nat×Nat)) (c:Nat),v=.slice A l.length c∧l.length≤Rows.uptoBulk x.1∧(l.length≤4611686018427387904→Rngs w A l.length l):=by
 rcases open_slice Tryz.underlying34 h with⟨hcs,rfl⟩ | ⟨a,len,cap,m,n',D,Pl,hcs,_,hl,hm,hmm,rfl,hi⟩
 ·simp only[List.cons.injEq,and_true]at hcs
  exact⟨none,[],0,hcs,Nat.zero_le _,fun _=>Rngs.nil w⟩
 ·simp only[List.cons.injEq,and_true]at hcs
  simp only[if_true]at hmm
  subst hmm
  have hex:∀i,i < len→∃y:Nat×Nat,w.cell? (a.add (i * 2))=some (.int .u64 (y.1:Nat))∧w.cell? (a.add (i * 2+1))=some (.int .u64 (y.2:Nat)):=by
   intro i hil
   obtain⟨cs',hc,ht⟩:=hi i (by omega)
   rw[c1.2.2.2.2.2.1]at hc
   obtain⟨_,hcn,hat⟩:=World.cells?_some hc
   obtain⟨xs,k,_,_,_,hxl,hf⟩:=DataW.trod_struct Tryz.underlying77 ht
   have hxl:xs.length=2:=hxl
   match cs',hcn,xs,hxl with
   | [u,v],_,[y0,y1],_=>
    have t0:DataW.trod enc Tryz.prog w base (fun _=>true) held k 33 (([u,v].drop 0).take (Tryz.prog.cellsOf 33))=some y0:=hf 0 _ rfl
    have t1:DataW.trod enc Tryz.prog w base (fun _=>true) held k 33 (([u,v].drop 1).take (Tryz.prog.cellsOf 33))=some y1:=hf 1 _ rfl
    rw[c1.1]at t0 t1
    obtain⟨u0,rfl⟩:=fld_u (v:=u) t0
    obtain⟨u1,rfl⟩:=fld_u (v:=v) t1
    have h0:=hat 0 (by decide)
    have h1:=hat 1 (by decide)
    rw[Go.Deep.add_add]at h0 h1
    exact⟨(u0,u1),h0,h1⟩
  obtain⟨L,hL,hP⟩:=exists_row hex
  refine⟨some a,L,_,by rw[hcs,hL],?_,fun hbig=>⟨rfl,hbig,?_⟩⟩
  ·simp only[Rows.uptoBulk]
   have:=bulk_len ((List.range len).map D)
   rw[List.length_map,List.length_range]at this
   omega
  ·rcases Nat.eq_zero_or_pos len with h0 | h0
   ·exact .inl (by omega)
   ·right
    obtain⟨b,off,spot⟩:=a
    obtain⟨y,hy⟩:∃y,L[0]? =some y:=⟨_,List.getElem?_eq_getElem (by omega)⟩
    have hc0:=(hP 0 y hy).1
    have hspot:spot=none:=by simpa [Addr.add] using World.cell?_spot hc0
    subst hspot
    refine⟨b,off,rfl,World.block_lt_of_cell? w _ hc0,fun i z hz=> ?_⟩
    have h1:=(hP i z hz).1
    have h2:=(hP i z hz).2
    rw[Addr.add_lit]at h1 h2
    exact⟨h1,h2⟩
theorem fld_f {n:Nat} {a6 a7 a8 a9 a10 a11 a12 a13:Value} {x:DataW H×List MemPlace} (h:DataW.trod enc Tryz.prog w base (fun _=>true) held n 36 [a6,a7,a8,a9,a10,a11,a12,a13]=some x):
  ∃(f:Fr) (A:Option Addr) (c:Nat),[a6,a7,a8,a9,a10,a11,a12,a13]= [.int .u64 (f.kind:Nat),.int .u64 (f.a:Nat),.int .u64 (f.b:Nat),.int .u64 (f.c:Nat),.bool f.fin,.string f.data,.string f.more,.slice A f.list.length c]∧
   f.data.size+f.more.size+f.list.length≤Rows.uptoBulk x.1∧(f.list.length≤4611686018427387904→Rngs w A f.list.length f.list):=by
 obtain⟨xs,k,_,rfl,_,hxl,hf⟩:=DataW.trod_struct Tryz.underlying36 h
 have hxl:xs.length=8:=hxl
 match xs,hxl with
 | [y0,y1,y2,y3,y4,y5,y6,y7],_=>
  have t0:DataW.trod enc Tryz.prog w base (fun _=>true) held k 33 (([a6,a7,a8,a9,a10,a11,a12,a13].drop 0).take (Tryz.prog.cellsOf 33))=some y0:=hf 0 _ rfl
  have t1:DataW.trod enc Tryz.prog w base (fun _=>true) held k 33 (([a6,a7,a8,a9,a10,a11,a12,a13].drop 1).take (Tryz.prog.cellsOf 33))=some y1:=hf 1 _ rfl
  have t2:DataW.trod enc Tryz.prog w base (fun _=>true) held k 33 (([a6,a7,a8,a9,a10,a11,a12,a13].drop 2).take (Tryz.prog.cellsOf 33))=some y2:=hf 2 _ rfl
  have t3:DataW.trod enc Tryz.prog w base (fun _=>true) held k 33 (([a6,a7,a8,a9,a10,a11,a12,a13].drop 3).take (Tryz.prog.cellsOf 33))=some y3:=hf 3 _ rfl
  have t4:DataW.trod enc Tryz.prog w base (fun _=>true) held k 4 (([a6,a7,a8,a9,a10,a11,a12,a13].drop 4).take (Tryz.prog.cellsOf 4))=some y4:=hf 4 _ rfl
  have t5:DataW.trod enc Tryz.prog w base (fun _=>true) held k 9 (([a6,a7,a8,a9,a10,a11,a12,a13].drop 5).take (Tryz.prog.cellsOf 9))=some y5:=hf 5 _ rfl
  have t6:DataW.trod enc Tryz.prog w base (fun _=>true) held k 9 (([a6,a7,a8,a9,a10,a11,a12,a13].drop 6).take (Tryz.prog.cellsOf 9))=some y6:=hf 6 _ rfl
  have t7:DataW.trod enc Tryz.prog w base (fun _=>true) held k 34 (([a6,a7,a8,a9,a10,a11,a12,a13].drop 7).take (Tryz.prog.cellsOf 34))=some y7:=hf 7 _ rfl
  rw[c1.1]at t0 t1 t2 t3
  rw[c1.2.2.2.1]at t4
  rw[c1.2.2.1]at t5 t6
  rw[c1.2.2.2.2.1]at t7
  obtain⟨u0,rfl⟩:=fld_u (v:=a6) t0
  obtain⟨u1,rfl⟩:=fld_u (v:=a7) t1
  obtain⟨u2,rfl⟩:=fld_u (v:=a8) t2
  obtain⟨u3,rfl⟩:=fld_u (v:=a9) t3
  obtain⟨fb,rfl⟩:=fld_b (v:=a10) t4
  obtain⟨s5,rfl,e5⟩:=fld_s (v:=a11) t5
  obtain⟨s6,rfl,e6⟩:=fld_s (v:=a12) t6
  obtain⟨A,l,c,rfl,e7,hr⟩:=fld_r (v:=a13) t7
  refine⟨⟨u0,u1,u2,u3,fb,s5,s6,l⟩,A,c,rfl,?_,hr⟩
  simp only[List.map_cons,List.map_nil,Rows.uptoBulk,Rows.uptoBulkAll]
  omega
theorem trod_ev (n:Nat) (cs:List Value) (x:DataW H×List MemPlace) (hlen:cs.length=14) (h:DataW.trod enc Tryz.prog w base (fun _=>true) held n 38 cs=some x):
  ∃y:EV,cs=y.cells∧(y.e.f.list.length≤4611686018427387904→Rngs w y.A y.e.f.list.length y.e.f.list)∧esz y.e≤20+Rows.uptoBulk x.1:=by
 obtain⟨xs,k,_,rfl,_,hxl,hf⟩:=DataW.trod_struct Tryz.underlying38 h
 have hxl:xs.length=7:=hxl
 match cs,hlen,xs,hxl with
 | [a0,a1,a2,a3,a4,a5,a6,a7,a8,a9,a10,a11,a12,a13],_,[y0,y1,y2,y3,y4,y5,y6],_=>
  have t0:DataW.trod enc Tryz.prog w base (fun _=>true) held k 3 (([a0,a1,a2,a3,a4,a5,a6,a7,a8,a9,a10,a11,a12,a13].drop 0).take (Tryz.prog.cellsOf 3))=some y0:=hf 0 _ rfl
  have t1:DataW.trod enc Tryz.prog w base (fun _=>true) held k 3 (([a0,a1,a2,a3,a4,a5,a6,a7,a8,a9,a10,a11,a12,a13].drop 1).take (Tryz.prog.cellsOf 3))=some y1:=hf 1 _ rfl
  have t2:DataW.trod enc Tryz.prog w base (fun _=>true) held k 33 (([a0,a1,a2,a3,a4,a5,a6,a7,a8,a9,a10,a11,a12,a13].drop 2).take (Tryz.prog.cellsOf 33))=some y2:=hf 2 _ rfl
  have t3:DataW.trod enc Tryz.prog w base (fun _=>true) held k 33 (([a0,a1,a2,a3,a4,a5,a6,a7,a8,a9,a10,a11,a12,a13].drop 3).take (Tryz.prog.cellsOf 33))=some y3:=hf 3 _ rfl
  have t4:DataW.trod enc Tryz.prog w base (fun _=>true) held k 33 (([a0,a1,a2,a3,a4,a5,a6,a7,a8,a9,a10,a11,a12,a13].drop 4).take (Tryz.prog.cellsOf 33))=some y4:=hf 4 _ rfl
  have t5:DataW.trod enc Tryz.prog w base (fun _=>true) held k 9 (([a0,a1,a2,a3,a4,a5,a6,a7,a8,a9,a10,a11,a12,a13].drop 5).take (Tryz.prog.cellsOf 9))=some y5:=hf 5 _ rfl
  have t6:DataW.trod enc Tryz.prog w base (fun _=>true) held k 36 (([a0,a1,a2,a3,a4,a5,a6,a7,a8,a9,a10,a11,a12,a13].drop 6).take (Tryz.prog.cellsOf 36))=some y6:=hf 6 _ rfl
  rw[c1.2.1]at t0 t1
  rw[c1.1]at t2 t3 t4
  rw[c1.2.2.1]at t5
  rw[c1.2.2.2.2.2.2.1]at t6
  obtain⟨z0,rfl⟩:=fld_i (v:=a0) t0
  obtain⟨z1,rfl⟩:=fld_i (v:=a1) t1
  obtain⟨u2,rfl⟩:=fld_u (v:=a2) t2
  obtain⟨u3,rfl⟩:=fld_u (v:=a3) t3
  obtain⟨u4,rfl⟩:=fld_u (v:=a4) t4
  obtain⟨s5,rfl,e5⟩:=fld_s (v:=a5) t5
  obtain⟨f,A,c,ef,e6,hr⟩:=fld_f (a6:=a6) (a7:=a7) (a8:=a8) (a9:=a9) (a10:=a10) (a11:=a11) (a12:=a12) (a13:=a13) t6
  simp only[List.cons.injEq,and_true]at ef
  obtain⟨rfl,rfl,rfl,rfl,rfl,rfl,rfl,rfl⟩:=ef
  refine⟨⟨⟨z0,z1,u2,u3,u4,s5,f⟩,A,c⟩,rfl,hr,?_⟩
  unfold esz
  simp only[List.map_cons,List.map_nil,Rows.uptoBulk,Rows.uptoBulkAll]
  omega
theorem sum_bulk {D:Nat→DataW H} :∀(l:List EV),(∀i y,l[i]? =some y→esz y.e≤20+Rows.uptoBulk (D i))→essz (evs l)≤20 * l.length+Rows.uptoBulkAll ((List.range l.length).map D):=by
 intro l
 induction l generalizing D with
 | nil=>intro _;simp[evs,essz]
 | cons x r ih=>
  intro h
  have h0:=h 0 x rfl
  have h1:=ih (D:=fun i=>D (i+1)) (fun i y hy=>h (i+1) y (by simpa using hy))
  have e1:essz (evs (x ::r))=esz x.e+essz (evs r):=by unfold evs essz;simp
  have e2:(List.range (x ::r).length).map D=D 0 ::(List.range r.length).map (fun i=>D (i+1)):=by
   rw[List.length_cons,List.range_succ_eq_map,List.map_cons,List.map_map];rfl
  rw[e1,e2,List.length_cons]
  simp only[Rows.uptoBulkAll]
  omega
theorem open_events {v:Value} {d:DataW H} {p:List MemPlace} {r:Reach} {b0:Nat} (hv:Value.okWide Tryz.prog w r b0 23 v) (h:DataW.Trod enc Tryz.prog w base (fun _=>true) held 23 v d p) (hb:Rows.uptoBulk d≤1048576):
  ∃(A:Option Addr) (c:Nat) (l:List EV),v=.slice A l.length c∧EIn w A l∧l.length≤c∧l.length≤1048576∧essz (evs l)≤100000000:=by
 obtain⟨a0,n0,c0,rfl⟩:=okWide_slice Tryz.underlying23 hv
 obtain⟨fuel,hf⟩:=h
 have hf:DataW.trod enc Tryz.prog w base (fun _=>true) held fuel 23 [.slice a0 n0 c0]=some (d,p):=hf
 rcases open_slice Tryz.underlying23 hf with⟨hcs,_⟩ | ⟨a,len,cap,m,n,D,Pl,hcs,_,hl,hm,hmm,hx,hi⟩
 ·simp only[List.cons.injEq,and_true]at hcs
  exact⟨none,0,[],hcs,⟨⟨by simp,.inl rfl⟩,by simp⟩,Nat.le_refl _,by simp,by simp[evs,essz]⟩
 ·simp only[List.cons.injEq,and_true]at hcs
  simp only[if_true]at hmm
  subst hmm
  have hex:∀i,i < len→∃y:EV,(∀j u,y.cells[j]? =some u→w.cell? (a.add (i * 14+j))=some u)∧(y.e.f.list.length≤4611686018427387904→Rngs w y.A y.e.f.list.length y.e.f.list)∧esz y.e≤20+Rows.uptoBulk (D i):=by
   intro i hil
   obtain⟨cs',hc,htr⟩:=hi i (by omega)
   rw[c1.2.2.2.2.2.2.2]at hc
   obtain⟨_,hcn,hat⟩:=World.cells?_some hc
   obtain⟨y,rfl,hr,hz⟩:=trod_ev _ _ _ hcn htr
   refine⟨y,fun j u hu=> ?_,hr,hz⟩
   have hj:j < 14:=(List.getElem?_eq_some_iff.1 hu).1
   rw[←Go.Deep.add_add,hat j hj,hu]
  obtain⟨L,hL,hP⟩:=exists_row hex
  have hd:d=(.slice ((List.range len).map D) ((List.range (m - len)).map fun j=>D (len+j))):=congrArg Prod.fst hx
  rw[hd]at hb
  simp only[Rows.uptoBulk]at hb
  have hs:=sum_bulk (D:=D) L (fun i y hy=>(hP i y hy).2.2)
  rw[hL]at hs
  have hln:=bulk_len ((List.range len).map D)
  rw[List.length_map,List.length_range]at hln
  refine⟨some a,m,L,by rw[hcs,hL],⟨⟨by omega,?_⟩,fun y hy=> ?_⟩,by omega,by omega,by omega⟩
  ·rcases Nat.eq_zero_or_pos len with h0 | h0
   ·exact .inl (List.eq_nil_of_length_eq_zero (by omega))
   ·right
    obtain⟨b,off,spot⟩:=a
    obtain⟨y,hy⟩:∃y,L[0]? =some y:=⟨_,List.getElem?_eq_getElem (by omega)⟩
    have hc0:=(hP 0 y hy).1 0 _ (show y.cells[0]? =some (.int .i64 y.e.kind)from rfl)
    have hspot:spot=none:=by simpa [Addr.add] using World.cell?_spot hc0
    subst hspot
    refine⟨b,off,rfl,by have h9:=World.block_lt_of_cell? w _ hc0;rw[Addr.add_lit]at h9;exact h9,fun i z hz j u hu=> ?_⟩
    have h1:=(hP i z hz).1 j u hu
    rw[Addr.add_lit,←Nat.add_assoc]at h1
    exact h1
  ·obtain⟨i,hi2⟩:=List.mem_iff_getElem?.1 hy
   have hp:=hP i y hi2
   refine hp.2.1 ?_
   have h1:esz y.e≤essz (evs L):=essz_mem (List.mem_map.2 ⟨y,hy,rfl⟩)
   unfold esz at h1
   omega
end
theorem ev_flat_len (l:List EV):(l.flatMap EV.cells).length=l.length * 14:=by
 induction l with
 | nil=>rfl
 | cons x l ih=>
  have:x.cells.length=14:=rfl
  rw[List.flatMap_cons,List.length_append,ih,List.length_cons,this];omega
theorem ev_flat_one (l:List EV):∀u∈l.flatMap EV.cells,u.oneCell'=true:=by
 intro u hu
 obtain⟨x,_,hx⟩:=List.mem_flatMap.1 hu
 exact Array.all_eq_true_iff_forall_mem.1 (ecs_one x.A x.e.f.list.length x.c x.e) u (by simpa [EV.cells] using hx)
theorem ev_flat_at {l:List EV} {j:Nat} {u:Value} (h:(l.flatMap EV.cells)[j]? =some u):∃x,l[j / 14]? =some x∧x.cells[j % 14]? =some u:=by
 have hj:=(List.getElem?_eq_some_iff.1 h).1
 rw[ev_flat_len]at hj
 have hi:j / 14 < l.length:=by omega
 refine⟨l[j / 14],List.getElem?_eq_getElem hi,?_⟩
 have:=flat_get EV.cells 14 (fun _=>rfl) l (j / 14) (j % 14) _ (List.getElem?_eq_getElem hi) (Nat.mod_lt _ (by decide))
 rw[show j / 14 * 14+j % 14=j by omega]at this
 rw[←this];exact h
theorem ev_src {w:World} {A:Option Addr} {l:List EV} (h:Elems w A EV.cells 14 l) (c:Nat):Src Tryz.prog 14 23 (.slice A l.length c) l.length (l.flatMap EV.cells) w:=by
 rcases h.row with rfl | ⟨g,o,rfl,hg,hc⟩
 ·cases A with
  | none=>exact Src.ofNil w Tryz.underlying23 c
  | some a=>exact Src.ofSlice w Tryz.underlying23 a 0 c [] rfl (fun j u h=>by simp at h) (fun u h=>by simp at h)
 ·refine Src.ofSlice w Tryz.underlying23 _ _ c _ (ev_flat_len l) (fun j u hu=> ?_) (ev_flat_one l)
  obtain⟨x,h1,h2⟩:=ev_flat_at hu
  have:=hc _ x h1 _ u h2
  rw[Addr.add_lit,←this]
  congr 2
  omega
theorem ev_run (w:World) (base:Nat) (v:Value) (n:Nat) (l:List EV) (hnl:l.length=n) (h:w.ownsRow base 38 14 v n (l.flatMap EV.cells)) (hb:base≤w.heap.size) {B:Option Addr} {m:List EV} (hm:Elems w B EV.cells 14 m) (d:Nat) (hn:n+m.length≤100000000):
  ∃A c w',(Builtin.append_ #[23,23] 23 #[v,.slice B m.length d]).run Tryz.prog w=.ok (.slice A (l++ m).length c) w'∧w'.ownsRow base 38 14 (.slice A (l++ m).length c) (l++ m).length ((l++ m).flatMap EV.cells)∧Mod v.ownBlock.toList w w':=by
 obtain⟨i0,hi,hz0,hz1,hz2⟩:=info_split eventInfo
 obtain⟨v',w',h1,h2,h3,h4⟩:=run_app (P:=Tryz.prog) 23 base hi hz1 rfl v n _ h (AppSrc.of_src Tryz.underlying23 hi hz0 hz1 (ev_src hm d)) (by simp only[maxLen];omega) (by rw[hz2];omega) hb
 obtain⟨A,c,rfl⟩:=owned_slice h2
 rw[List.length_append,hnl,List.flatMap_append]
 exact⟨A,c,w',h1,h2,Mod.of_grown h3⟩
theorem ev_els {w:World} {base:Nat} {A:Option Addr} {c:Nat} {l:List EV} (h:w.ownsRow base 38 14 (.slice A l.length c) l.length (l.flatMap EV.cells)) (hl:l.length≤100000000):Elems w A EV.cells 14 l:=by
 refine⟨by omega,?_⟩
 rcases h.2 with⟨h0,h1⟩ | ⟨g,cap,cur,hv,_,hh,_⟩
 ·left
  have:=congrArg (fun v=>match v with | Value.slice _ n _=>n | _=>0) h0
  exact List.eq_nil_of_length_eq_zero this
 ·cases hv
  refine .inr ⟨g,0,rfl,Blk.lt hh,fun i x hx j u hu=> ?_⟩
  have hj:j < 14:=(List.getElem?_eq_some_iff.1 hu).1
  have:=World.ownsRow.cells h (g:=g) rfl (i * 14+j) _ ((flat_get EV.cells 14 (fun _=>rfl) l i j x hx hj).trans hu)
  rw[Addr.add_lit]at this
  rw[Nat.zero_add]
  rw[Nat.zero_add]at this
  exact this
theorem ev_join {w:World} {A B:Option Addr} {l m:List EV} (c d:Nat) (hl:EIn w A l) (hm:EIn w B m) (hn:l.length+m.length≤100000000):
  ∃A1 c1 w1 A2 c2 w2,(Builtin.append_ #[23,23] 23 #[.slice (some ⟨w.heap.size,0,none⟩) 0 0,.slice A l.length c]).run Tryz.prog (w.alloc (.cells #[] 38))=.ok (.slice A1 l.length c1) w1∧
   (Builtin.append_ #[23,23] 23 #[.slice A1 l.length c1,.slice B m.length d]).run Tryz.prog w1=.ok (.slice A2 (l++ m).length c2) w2∧EIn w2 A2 (l++ m)∧Mod [] w w2:=by
 have m0:=(Mod.refl [] w).alloc (.cells #[] 38)
 have own0:(w.alloc (.cells #[] 38)).ownsRow w.heap.size 38 14 (.slice (some ⟨w.heap.size,0,none⟩) 0 0) 0 (([]:List EV).flatMap EV.cells):=
  ⟨rfl,.inr ⟨_,0,#[],rfl,Nat.le_refl _,heap_alloc_new w _,Nat.le_refl _,by simp only[maxLen];omega,rfl,rfl⟩⟩
 obtain⟨A1,c1,w1,r1,o1,m1⟩:=ev_run _ _ _ 0 [] rfl own0 m0.size (hl.els.new m0) c (by omega)
 rw[List.nil_append]at r1 o1
 have m1':Mod [] w w1:=m0.trans m1 (fun x hx=>by
  right
  have:x=w.heap.size:=by simpa [Value.ownBlock] using hx
  omega)
 obtain⟨A2,c2,w2,r2,o2,m2⟩:=ev_run w1 _ _ _ l rfl o1 m1'.size (hm.els.new m1') d hn
 have m2':Mod [] w w2:=m1'.keep m2 o1 (Nat.le_refl _)
 exact⟨A1,c1,w1,A2,c2,w2,r1,r2,⟨ev_els o2 (by rw[List.length_append];omega),fun x hx=>by
  rcases List.mem_append.1 hx with hx | hx
  ·exact(hl.rng x hx).new m2'
  ·exact(hm.rng x hx).new m2'⟩,m2'⟩
section
variable {P:Program} {Q:Exit→Act→World→Prop} {ops:Array Oper}
theorem wpList_append_want (w:World) {rest:List Oper} {o:Oper} {a:Act} (hg:Region.wanted o (yielded ops a.tmps)=true) (s x:Operand) (t tn:TypeId)
  (ho:o.op=.call { callee:=.builtin .append,args:= #[s,x],argTypes:= #[t,tn] }) (vs vx:Value) (hs:a.eval s=vs) (hx:a.eval x=vx)
  (v':Value) (w':World) (hr:(Builtin.append_ #[t,tn] o.type #[vs,vx]).run P w=.ok v' w') (h:wpList P ops Q rest (a.put o.dst v') w'):wpList P ops Q (o ::rest) a w:=
 wpList_step fun K hK=>by
  rw[if_pos hg]
  exact Lib.wp_append_run w s x t tn ho vs vx hs hx v' w' hr (hK _ _ h)
end
theorem walkEventJoins (W:World) (A B2:Option Addr) (c d:Nat) (l m:List EV) (h:EIn W A l) (h2:EIn W B2 m) (hn:l.length+m.length≤100000000) (hb:essz (evs l)+essz (evs m)≤4611686018427387904) (B:Nat) (hB:B≤W.heap.size) (hj:JVars B W):Calls Tryz.prog 9 #[.slice A l.length c,.slice B2 m.length d] W (RPost W true):=by
 have HJ:=hide (fun w' (m:Mod [] W w')=>hj.mod m hB (by simp))
 have HZ:=hide (fun w' (m:Mod [] W w')=>Nat.le_trans hB m.size)
 have HM0:=hide (Mod.refl [] W)
 clear hj hB
 have HE:=hide (fun w' (m:Mod [] W w')=>h.new m)
 have HF:=hide (fun w' (m:Mod [] W w')=>h2.new m)
 have HN:=hide hn
 have HLb:Hid (essz (evs (l++ m))≤4611686018427387904):=hide (by rw[evs_app,essz_app];exact hb)
 clear h h2 hb hn
 go_enter Tryz.func9,Tryz.ntmps9
 go_wp2_with fail
 refine(awake_any W B (HZ.out _ HM0.out) (HJ.out _ HM0.out)).mono ?_
 rintro e0 w1 ⟨rfl,m0⟩
 have HM1:=hide (HM0.out.trans m0 (by simp))
 obtain⟨J1,j1,u1,K1,k1,v1,ja,jb,je,jm⟩:=ev_join (w:=w1) c d (HE.out _ HM1.out) (HF.out _ HM1.out) (by have:=HN.out;omega)
 obtain⟨q1,hq⟩:∃q,l++ m=q:=⟨_,rfl⟩
 rw[hq]at jb je
 have HQq1:=hide hq
 clear hq
 have HJa1:=hide ja
 have HJb1:=hide jb
 have HJe1:=hide je
 have HJm1:=hide jm
 clear ja jb je jm
 have HJz:=hide (HM1.out.trans HJm1.out (by simp))
 clear HJm1
 clear m0
 go_wp2_with (first | (at_builtin;refine Lib.wpList_append_run _ rfl (.tmp 20) (.tmp 21) 23 23 rfl (.slice (some ⟨w1.heap.size,0,none⟩) 0 0) (.slice A l.length c) rfl rfl (.slice J1 l.length j1) u1 HJa1.out ?_) | (at_builtin;refine Lib.wpList_append_run _ rfl (.tmp 22) (.tmp 23) 23 23 rfl (.slice J1 l.length j1) (.slice B2 m.length d) rfl rfl (.slice K1 q1.length k1) v1 HJb1.out ?_))
 have HG:=hide (fun w' (m:Mod [] v1 w')=>HJe1.out.new m)
 clear HJe1 HJa1 HJb1 HM1
 have HM1:=hide HJz.out
 clear HJz
 have HLc:Hid (essz (evs q1)≤4611686018427387904):=hide (by rw[←HQq1.out];exact HLb.out)
 clear HLb
 by_cases hl:4096 < essz (evs q1)
 ·refine(large_any v1 K1 k1 q1 (HG.out _ (Mod.refl _ v1)) HLc.out true (decide_eq_true hl)).mono ?_
  rintro e0 w2 ⟨rfl,m0⟩
  have HM2:=hide (HM1.out.trans m0 (by simp))
  clear m0
  go_wp2_with fail
  go_ret
  exact⟨rfl,HM2.out⟩
 ·have hl':essz (evs q1)≤4096:=by omega
  have HL:=hide hl'
  have hn:=all_len hl'
  rw[←HQq1.out,List.length_append]at hn
  have HN2:=hide hn
  clear hl' hn
  refine(large_any v1 K1 k1 q1 (HG.out _ (Mod.refl _ v1)) HLc.out false (decide_eq_false hl)).mono ?_
  rintro e0 w2 ⟨rfl,m0⟩
  have HM2:=hide (HM1.out.trans m0 (by simp))
  have HV2:=hide m0
  clear hl
  clear m0
  go_wp2_with fail
  have hz1:l.length≤100000:=by have:=HN2.out;omega
  have hz2:m.length≤100000:=by have:=HN2.out;omega
  have hz3:q1.length≤100000:=by rw[←HQq1.out,List.length_append];have:=HN2.out;omega
  have HB1:=hide (fun w' (m':Mod [] W w')=>bin_any w' A c l (HE.out _ m') hz1)
  have HS1:=hide (fun w' (m':Mod [] W w')=>seq_any w' A c l (HE.out _ m') hz1 B (HZ.out _ m') (HJ.out _ m'))
  have HB2:=hide (fun w' (m':Mod [] W w')=>bin_any w' B2 d m (HF.out _ m') hz2)
  have HS2:=hide (fun w' (m':Mod [] W w')=>seq_any w' B2 d m (HF.out _ m') hz2 B (HZ.out _ m') (HJ.out _ m'))
  have HB3:=hide (fun w' (m':Mod [] v1 w')=>bin_any w' K1 k1 q1 (HG.out _ m') hz3)
  have HS3:=hide (fun w' (m':Mod [] v1 w')=>seq_any w' K1 k1 q1 (HG.out _ m') hz3 B (HZ.out _ (HM1.out.trans m' (by simp))) (HJ.out _ (HM1.out.trans m' (by simp))))
  have hma:=mayE_app l m
  rw[HQq1.out]at hma
  clear hz1 hz2 hz3
  cases ha:mayE l <;> cases hb:mayE m
  ·rw[ha,hb]at hma
   rw[told_no ha]at HB1
   rw[told_no hb]at HB2
   rw[told_no hma]at HB3
   rw[told_no ha]at HS1
   rw[told_no hb]at HS2
   rw[told_no hma]at HS3
   clear ha hb hma
   refine(HB1.out _ HM2.out).mono ?_
   rintro e0 w3 ⟨rfl,m0⟩
   have HM3:=hide (HM2.out.trans m0 (by simp))
   have HV3:=hide (HV2.out.trans m0 (by simp))
   clear m0
   go_wp2_with fail
   refine(HB2.out _ HM3.out).mono ?_
   rintro e0 w4 ⟨rfl,m0⟩
   have HM4:=hide (HM3.out.trans m0 (by simp))
   have HV4:=hide (HV3.out.trans m0 (by simp))
   clear m0
   go_wp2_with fail
   refine(HB3.out _ HV4.out).mono ?_
   rintro e0 w5 ⟨rfl,m0⟩
   have HM5:=hide (HM4.out.trans m0 (by simp))
   have HV5:=hide (HV4.out.trans m0 (by simp))
   clear m0
   go_wp2_with fail
   refine(HS1.out _ HM5.out).mono ?_
   rintro e0 w6 ⟨rfl,m0⟩
   have HM6:=hide (HM5.out.trans m0 (by simp))
   have HV6:=hide (HV5.out.trans m0 (by simp))
   clear m0
   go_wp2_with fail
   refine(HS2.out _ HM6.out).mono ?_
   rintro e0 w7 ⟨rfl,m0⟩
   have HM7:=hide (HM6.out.trans m0 (by simp))
   have HV7:=hide (HV6.out.trans m0 (by simp))
   clear m0
   go_wp2_with fail
   refine(HS3.out _ HV7.out).mono ?_
   rintro e0 w8 ⟨rfl,m0⟩
   have HM8:=hide (HM7.out.trans m0 (by simp))
   clear m0
   go_wp2_with fail
   go_ret
   exact⟨rfl,HM8.out⟩
  ·rw[ha,hb]at hma
   rw[told_no ha]at HB1
   obtain⟨DHB2,hd, -, -⟩:= @told_at eone m hb
   rw[hd]at HB2
   clear hd
   rw[told_no hma]at HB3
   rw[told_no ha]at HS1
   obtain⟨DHS2,hd, -, -⟩:= @told_at srec m hb
   rw[hd]at HS2
   clear hd
   rw[told_no hma]at HS3
   clear ha hb hma
   refine(HB1.out _ HM2.out).mono ?_
   rintro e0 w3 ⟨rfl,m0⟩
   have HM3:=hide (HM2.out.trans m0 (by simp))
   have HV3:=hide (HV2.out.trans m0 (by simp))
   clear m0
   go_wp2_with fail
   refine(HB2.out _ HM3.out).mono ?_
   rintro e0 w4 ⟨rfl,m0⟩
   have HM4:=hide (HM3.out.trans m0 (by simp))
   have HV4:=hide (HV3.out.trans m0 (by simp))
   clear m0
   go_wp2_with fail
   refine(HB3.out _ HV4.out).mono ?_
   rintro e0 w5 ⟨rfl,m0⟩
   have HM5:=hide (HM4.out.trans m0 (by simp))
   have HV5:=hide (HV4.out.trans m0 (by simp))
   clear m0
   go_wp2_with fail
   refine(HS1.out _ HM5.out).mono ?_
   rintro e0 w6 ⟨rfl,m0⟩
   have HM6:=hide (HM5.out.trans m0 (by simp))
   have HV6:=hide (HV5.out.trans m0 (by simp))
   clear m0
   go_wp2_with fail
   refine(HS2.out _ HM6.out).mono ?_
   rintro e0 w7 ⟨rfl,m0⟩
   have HM7:=hide (HM6.out.trans m0 (by simp))
   have HV7:=hide (HV6.out.trans m0 (by simp))
   clear m0
   go_wp2_with fail
   refine(HS3.out _ HV7.out).mono ?_
   rintro e0 w8 ⟨rfl,m0⟩
   have HM8:=hide (HM7.out.trans m0 (by simp))
   clear m0
   go_wp2_with fail
   go_ret
   exact⟨rfl,HM8.out⟩
  ·rw[ha,hb]at hma
   obtain⟨DHB1,hd, -, -⟩:= @told_at eone l ha
   rw[hd]at HB1
   clear hd
   rw[told_no hb]at HB2
   rw[told_no hma]at HB3
   obtain⟨DHS1,hd, -, -⟩:= @told_at srec l ha
   rw[hd]at HS1
   clear hd
   rw[told_no hb]at HS2
   rw[told_no hma]at HS3
   clear ha hb hma
   refine(HB1.out _ HM2.out).mono ?_
   rintro e0 w3 ⟨rfl,m0⟩
   have HM3:=hide (HM2.out.trans m0 (by simp))
   have HV3:=hide (HV2.out.trans m0 (by simp))
   clear m0
   go_wp2_with fail
   refine(HB2.out _ HM3.out).mono ?_
   rintro e0 w4 ⟨rfl,m0⟩
   have HM4:=hide (HM3.out.trans m0 (by simp))
   have HV4:=hide (HV3.out.trans m0 (by simp))
   clear m0
   go_wp2_with fail
   refine(HB3.out _ HV4.out).mono ?_
   rintro e0 w5 ⟨rfl,m0⟩
   have HM5:=hide (HM4.out.trans m0 (by simp))
   have HV5:=hide (HV4.out.trans m0 (by simp))
   clear m0
   go_wp2_with fail
   refine(HS1.out _ HM5.out).mono ?_
   rintro e0 w6 ⟨rfl,m0⟩
   have HM6:=hide (HM5.out.trans m0 (by simp))
   have HV6:=hide (HV5.out.trans m0 (by simp))
   clear m0
   go_wp2_with fail
   refine(HS2.out _ HM6.out).mono ?_
   rintro e0 w7 ⟨rfl,m0⟩
   have HM7:=hide (HM6.out.trans m0 (by simp))
   have HV7:=hide (HV6.out.trans m0 (by simp))
   clear m0
   go_wp2_with fail
   refine(HS3.out _ HV7.out).mono ?_
   rintro e0 w8 ⟨rfl,m0⟩
   have HM8:=hide (HM7.out.trans m0 (by simp))
   clear m0
   go_wp2_with fail
   go_ret
   exact⟨rfl,HM8.out⟩
  ·rw[ha,hb]at hma
   obtain⟨D,hD,hDl,hDs⟩:= @told_at eone l ha
   obtain⟨E,hE,hEl,hEs⟩:= @told_at eone m hb
   obtain⟨S,hS,hSl,hSs⟩:= @told_at srec l ha
   obtain⟨T,hT,hTl,hTs⟩:= @told_at srec m hb
   rw[hD]at HB1
   rw[hE]at HB2
   rw[hS]at HS1
   rw[hT]at HS2
   have ht1:=told_app (by rw[HQq1.out];exact hma) hDl hEl
   have ht2:=told_app (by rw[HQq1.out];exact hma) hSl hTl
   rw[HQq1.out]at ht1 ht2
   rw[ht1]at HB3
   rw[ht2]at HS3
   have f1:¬9223372036854775807 < D.size+E.size:=by
    have h1:=eones_le (mayE_all ha)
    have h2:=eones_le (mayE_all hb)
    rw[evs_len]at h1 h2
    have:=HN2.out
    omega
   have f2:¬9223372036854775807 < S.size+T.size:=by
    have h1:=srecs_le (mayE_all ha)
    have h2:=srecs_le (mayE_all hb)
    have h3:=HL.out
    rw[←HQq1.out,evs_app,essz_app]at h3
    omega
   clear ht1 ht2 ha hb hma hD hE hS hT hDl hEl hSl hTl hDs hEs hSs hTs
   refine(HB1.out _ HM2.out).mono ?_
   rintro e0 w3 ⟨rfl,m0⟩
   have HM3:=hide (HM2.out.trans m0 (by simp))
   have HV3:=hide (HV2.out.trans m0 (by simp))
   clear m0
   go_wp2_with fail
   refine(HB2.out _ HM3.out).mono ?_
   rintro e0 w4 ⟨rfl,m0⟩
   have HM4:=hide (HM3.out.trans m0 (by simp))
   have HV4:=hide (HV3.out.trans m0 (by simp))
   clear m0
   go_wp2_with fail
   refine(HB3.out _ HV4.out).mono ?_
   rintro e0 w5 ⟨rfl,m0⟩
   have HM5:=hide (HM4.out.trans m0 (by simp))
   have HV5:=hide (HV4.out.trans m0 (by simp))
   clear m0
   go_wp2_with fail
   refine(HS1.out _ HM5.out).mono ?_
   rintro e0 w6 ⟨rfl,m0⟩
   have HM6:=hide (HM5.out.trans m0 (by simp))
   have HV6:=hide (HV5.out.trans m0 (by simp))
   clear m0
   go_wp2_with fail
   refine(HS2.out _ HM6.out).mono ?_
   rintro e0 w7 ⟨rfl,m0⟩
   have HM7:=hide (HM6.out.trans m0 (by simp))
   have HV7:=hide (HV6.out.trans m0 (by simp))
   clear m0
   go_wp2_with fail
   refine(HS3.out _ HV7.out).mono ?_
   rintro e0 w8 ⟨rfl,m0⟩
   have HM8:=hide (HM7.out.trans m0 (by simp))
   clear m0
   go_wp2_with fail
   go_ret
   exact⟨rfl,HM8.out⟩
end Go.Proofs.YtlfjhgamlkbofaaGreatDoor
namespace Go.Proofs.YtlfjhgamlkbofaaGreatDoor.lawEventJoins
open Go.ChangeShapes Go.WideShapes Go.ChangeAt Go.RowKit
open Go.ChangeMaps (open_string shut_string)
theorem own:ownKnob Tryz.prog.godebug=none:=by kernel_rfl
theorem laidOut:laidOutB Tryz.prog=true:=by kernel_rfl
theorem wit (os : Os) {H : Type} (enc : TypeId × Value → H) : ∃ (w : World) (tape : Tape) (i : Input), w.os = os ∧ (w.forCall tape i).Shaped Tryz.checked.prog ∧ i.vars = [] ∧ Input.okWide Tryz.checked.prog (w.forCall tape i) .any w.heap.size 9 i ∧
      (Rows.OpenSpec.upto Rows.eventJoinsSpec).preRow enc Tryz.checked.prog Tryz.f9 Rows.eventJoinsUptoRow.domain false Rows.eventJoinsUptoRow.laid (w.forCall tape i).memory i.args ∧ ({} : Assume).holds Tryz.checked.prog (lone (Frame.enter Tryz.checked.prog 9 i.args .normal) [] (w.forCall tape i)) := by
  obtain ⟨places, hx⟩ : ∃ places, DataW.whole enc Tryz.prog ((World.laidAll Tryz.prog os Rows.eventJoinsUptoRow.laid).forCall (fun _ _ => 0) ⟨#[], #[.slice none 0 0, .slice none 0 0], []⟩).memory Tryz.f9.params.toList Rows.eventJoinsSpec.vars false (#[.slice none 0 0, .slice none 0 0] : Array Value).toList 8 = some ([.nil, .nil], [], places) := ⟨[], by kernel_rfl⟩
  have hok : Input.okWideB Tryz.prog ((World.laidAll Tryz.prog os Rows.eventJoinsUptoRow.laid).forCall (fun _ _ => 0) ⟨#[], #[.slice none 0 0, .slice none 0 0], []⟩) 9 ⟨#[], #[.slice none 0 0, .slice none 0 0], []⟩ = true := by kernel_rfl
  exact ⟨World.laidAll Tryz.prog os Rows.eventJoinsUptoRow.laid, fun _ _ => 0, ⟨#[], #[.slice none 0 0, .slice none 0 0], []⟩, World.laidAll_os _ _ _, World.shaped_of_ZipB (by kernel_rfl) (by kernel_rfl), (Input.okWide_of_okWideB (base := 0) hok).1, (Input.okWide_of_okWideB hok).2,
    OpenSpec.preRow_of_cond 8 hx (by kernel_rfl) (fun k hk => by cases hk; kernel_rfl) (by kernel_rfl) (by rw [MakeChecks.laidMetH_plain _ _ _ (by kernel_rfl)]; exact laidMet_laidAll _ (by kernel_rfl) (by kernel_rfl)),
    by simp only [Assume.holds]; exact ⟨by simp, by simp, fun _ => Modest.zero, by simp, by simp⟩⟩
theorem lifted (os:Os) (started:os.Started) (H:Type) (enc:TypeId×Value→H) (F:Stop.Interp):
  ReturnsInHanded {} Tryz.checked os 9 .any ((Rows.OpenSpec.upto Rows.eventJoinsSpec).preRow enc Tryz.prog Tryz.f9 Rows.eventJoinsUptoRow.domain false Rows.eventJoinsUptoRow.laid)
   (((Rows.OpenSpec.upto Rows.eventJoinsSpec).at F).post enc Tryz.prog Tryz.f9 false true false false):=by
 refine returnsInHanded_of_row (C:=Tryz.checked) (s:=Rows.OpenSpec.upto Rows.eventJoinsSpec) own started (by kernel_rfl) Tryz.func9 (wit os enc) ?_
 intro W base args ds gs before hval0 hW hcnd hk hsz0 hlaid _ _
 have hval:∀(j:Nat) t v,Tryz.f9.params[j]? =some t→args[j]? =some v→Value.okWide Tryz.prog W .any base t v:=hval0
 have hW':=hW
 obtain⟨p,q,hA0,hV,rfl,hfz,hnd⟩:=hW
 have hA:DataW.TrodAll enc Tryz.prog W 0 (fun _=>true) true Tryz.f9.params.toList args.toList ds p:=hA0
 rw[Tryz.params9]at hA hval
 obtain⟨v0,vs0,d0,ds0,p0,q0,hargs,rfl,rfl,h0,r0⟩:=trodAll_cons hA
 obtain⟨v1,vs1,d1,ds1,p1,q1,rfl,rfl,rfl,h1,r1⟩:=trodAll_cons r0
 obtain⟨rfl,rfl,rfl⟩:=trodAll_nil r1
 obtain rfl:args= #[v0,v1]:=by cases args;simp_all
 obtain⟨rfl,rfl⟩:=trodVars_none hV
 have hbb:=of_decide_eq_true (hk _ rfl)
 simp only[List.append_nil,Rows.uptoBulkAll]at hbb
 have hb0:Rows.uptoBulk d0≤1048576:=by omega
 have hb1:Rows.uptoBulk d1≤1048576:=by omega
 have k0:=h0
 have lt0:∀x∈p0,x.block < W.heap.size:=by obtain⟨m,hm⟩:=k0;exact DataW.trod_lt m _ _ _ hm
 obtain⟨A0,c0,l0,rfl,hx0,hp0,hn0,hz0⟩:=open_events (hval 0 23 v0 rfl rfl) h0 hb0
 have k1:=h1
 have lt1:∀x∈p1,x.block < W.heap.size:=by obtain⟨m,hm⟩:=k1;exact DataW.trod_lt m _ _ _ hm
 obtain⟨A1,c1,l1,rfl,hx1,hp1,hn1,hz1⟩:=open_events (hval 1 23 v1 rfl rfl) h1 hb1
 clear hA0 hval0
 refine(walkEventJoins W A0 A1 c0 c1 l0 l1 hx0 hx1 (by omega) (by omega) W.heap.size (Nat.le_refl _) (jvars_of_laid hlaid)).mono fun e W' ⟨he,bel0⟩=> ?_
 have bel:=bel0.below (Nat.le_refl _) (by simp)
 subst he
 exact⟨_,rfl,_,_,_,[],_,[],hW',trodAll_mk1 (shut_bool Tryz.underlying4 _),(trodAll_cons_mk (Below.trod laidOut (by kernel_rfl) (of_decide_eq_true (by kernel_rfl)) k0 bel lt0) (trodAll_cons_mk (Below.trod laidOut (by kernel_rfl) (of_decide_eq_true (by kernel_rfl)) k1 bel lt1) trodAll_mk0)),rfl,bel.frame _,fun h=>by cases h⟩
theorem over:Rows.eventJoinsUptoRow.holds Tryz.pinned (Rows.OpenSpec.upto Rows.eventJoinsSpec):=
 OpenClaim.holds_of_cond 9 Tryz.f9 rfl rfl rfl rfl rfl rfl rfl ⟨rfl,rfl,rfl,rfl,rfl⟩ rfl rfl rfl rfl rfl (by kernel_rfl) Tryz.func9 (by kernel_rfl)
  (of_decide_eq_true (by kernel_rfl)) (by unfold Func.isWrapper;first | (rw[if_pos (by decide+kernel)];kernel_rfl) | (rw[if_neg (by decide+kernel)];exact⟨rfl,rfl⟩))
  (fun os started H enc _ F=>by rw[OpenClaim.pre_eq_preRow];exact lifted os started H enc F)
theorem proved:Rows.EventJoinsUptoCardSaid:=
 Claim7.holds_tied_plain_at .later [] [.data,.data,.data,.data,.sentinel,.sentinel,.pinned] true (true, "4c8695eb1ac032b4e716ff44961a2dcfc2aba7512ef385ed2dfdf8b9738e1b27") true over (fun _ h=>by cases h) (by kernel_rfl) (fun _ h=>by cases h) eventJoinsUpto_row_tie rfl ⟨rfl,rfl⟩ (by kernel_rfl) rfl
  (fun f fn hf hfn=>by
   obtain rfl:f=9:=Option.some.inj ((show Tryz.prog.funcNamed "kymograph/kymographlaw07.EventJoins" =some 9 by kernel_rfl).symm.trans hf) |>.symm
   obtain rfl:fn=Tryz.f9:=(Option.some.inj (Tryz.func9.symm.trans hfn)).symm
   exact⟨by kernel_rfl,fun j t ht=>by
    rw[Tryz.params9]at ht
    have hm:t∈ [23,23]:=by simpa using Array.mem_of_getElem? ht
    have hall:([23,23].all fun u=> !Tryz.prog.wantsStandIn u)=true:=by kernel_rfl
    exact(show Tryz.prog.wantsStandIn t=false by simpa using List.all_eq_true.1 hall t hm)⟩)
  (by kernel_rfl)
#print axioms proved
end Go.Proofs.YtlfjhgamlkbofaaGreatDoor.lawEventJoins
