/-
  Contracts of the functions that the laws of this seat reach, and plain laws, part 4 of 13; no condition.
-/
import Derived.Test.YtlfjhgamlkbofaaGreatDoorPF1
import Derived.Test.YtlfjhgamlkbofaaGreatDoorPF2
import Derived.Test.YtlfjhgamlkbofaaGreatDoorPC
set_option linter.unusedVariables false
set_option linter.unusedSimpArgs false
set_option linter.unnecessarySimpa false
set_option maxRecDepth 100000
set_option maxHeartbeats 16000000
namespace Go.Proofs.YtlfjhgamlkbofaaGreatDoor
open Go.RowKit
structure RF (w:World) (R F:Nat) (A:Option Addr) (n c:Nat) (f:Fr) (st:RS):Prop where
 blk:Blk w F 36 (fcs A n c f)
 rd:RdO w R st
theorem RF.ne {w:World} {R F:Nat} {A:Option Addr} {n c:Nat} {f:Fr} {st:RS} (h:RF w R F A n c f st):F≠R:=by
 obtain⟨s,h1,_⟩:=h.rd
 exact h.blk.ne_ h1 (by decide)
theorem RdO.setF {w:World} {R F i:Nat} {st:RS} {v:Value} (h:RdO w R st) (hn:F≠R):RdO (w.setCell ⟨F,i,none⟩ v) R st:=by
 obtain⟨s,h1,h2⟩:=h
 exact⟨s,h1.far (Ne.symm hn) v,h2⟩
section
variable {w:World} {R F:Nat} {A:Option Addr} {n c:Nat} {f:Fr} {st:RS}
theorem RF.drewN (h:RF w R F A n c f st) (k:Nat):RF (w.drewN k) R F A n c f st:=⟨h.blk,h.rd⟩
theorem RF.set_kind (h:RF w R F A n c f st) (x:Nat):RF (w.setCell ⟨F,0,none⟩ (.int .u64 x)) R F A n c { f with kind:=x } st:=⟨h.blk.set_ 0 _,h.rd.setF h.ne⟩
theorem RF.set_a (h:RF w R F A n c f st) (x:Nat):RF (w.setCell ⟨F,1,none⟩ (.int .u64 x)) R F A n c { f with a:=x } st:=⟨h.blk.set_ 1 _,h.rd.setF h.ne⟩
theorem RF.set_b (h:RF w R F A n c f st) (x:Nat):RF (w.setCell ⟨F,2,none⟩ (.int .u64 x)) R F A n c { f with b:=x } st:=⟨h.blk.set_ 2 _,h.rd.setF h.ne⟩
theorem RF.set_c (h:RF w R F A n c f st) (x:Nat):RF (w.setCell ⟨F,3,none⟩ (.int .u64 x)) R F A n c { f with c:=x } st:=⟨h.blk.set_ 3 _,h.rd.setF h.ne⟩
theorem RF.set_fin (h:RF w R F A n c f st) (x:Bool):RF (w.setCell ⟨F,4,none⟩ (.bool x)) R F A n c { f with fin:=x } st:=⟨h.blk.set_ 4 _,h.rd.setF h.ne⟩
theorem RF.set_data (h:RF w R F A n c f st) (x:ByteArray):RF (w.setCell ⟨F,5,none⟩ (.string x)) R F A n c { f with data:=x } st:=⟨h.blk.set_ 5 _,h.rd.setF h.ne⟩
theorem RF.set_more (h:RF w R F A n c f st) (x:ByteArray):RF (w.setCell ⟨F,6,none⟩ (.string x)) R F A n c { f with more:=x } st:=⟨h.blk.set_ 6 _,h.rd.setF h.ne⟩
theorem RF.set_bad (h:RF w R F A n c f st) (b:Bool) (st':RS) (hs:(b=true∧st'=none)∨(b=false∧st'=st∧st.isNone=false)):RF (w.setCell ⟨R,1,none⟩ (.bool b)) R F A n c f st':=by
 refine⟨h.blk.far h.ne _,?_⟩
 obtain⟨s,h1,h2,h3⟩:=h.rd
 rcases hs with⟨rfl,rfl⟩ | ⟨rfl,rfl,hn⟩
 ·exact RdO.mk' (h1.set_ 1 _) h2 rfl (fun l h=>by cases h)
 ·exact RdO.mk' (h1.set_ 1 _) h2 hn.symm h3
theorem RF.num (h:RF w R F A n c f st) {x:Nat} {s1:RS} (e:rnum st=(x,s1)):
  Calls Tryz.prog 130 #[.pointer (some ⟨R,0,none⟩)] w fun e w'=>e=.returned (.int .u64 (x:Nat))∧RF w' R F A n c f s1∧Mod [R,F] w w':=by
 refine(rnum_any w R st h.rd).mono ?_
 rintro e' w1 ⟨rfl,h1,m1⟩
 rw[e]at h1
 exact⟨by rw[e],⟨m1.blk h.blk (by simpa using h.ne),h1⟩,m1.mono (by simp)⟩
theorem RF.take (h:RF w R F A n c f st) {k:Nat} (hk:k≤18446744073709551615) {x:ByteArray} {s1:RS} (e:rtake k st=(x.data.toList,s1)):
  Calls Tryz.prog 168 #[.pointer (some ⟨R,0,none⟩),.int .u64 k] w fun e w'=>e=.returned (.string x)∧RF w' R F A n c f s1∧Mod [R,F] w w':=by
 refine(rtake_any' w R st h.rd k hk).mono ?_
 rintro e' w1 ⟨rfl,h1,m1⟩
 rw[e]at h1
 refine⟨?_,⟨m1.blk h.blk (by simpa using h.ne),h1⟩,m1.mono (by simp)⟩
 rw[e];unfold str;rw[eta_bytes]
theorem RF.text (h:RF w R F A n c f st) {x:ByteArray} {s1:RS} (e:rtext st=(x.data.toList,s1)):
  Calls Tryz.prog 167 #[.pointer (some ⟨R,0,none⟩)] w fun e w'=>e=.returned (.string x)∧RF w' R F A n c f s1∧Mod [R,F] w w':=by
 refine(rtext_any w R st h.rd).mono ?_
 rintro e' w1 ⟨rfl,h1,m1⟩
 rw[e]at h1
 refine⟨?_,⟨m1.blk h.blk (by simpa using h.ne),h1⟩,m1.mono (by simp)⟩
 rw[e];unfold str;rw[eta_bytes]
end
theorem numE (st:RS):∃x s1,rnum st=(x,s1)∧x < 4611686018427387904:=⟨_,_,rfl,rnum_lt st⟩
theorem takeE (k:Nat) (st:RS):∃(x:ByteArray) (s1:RS),rtake k st=(x.data.toList,s1):=⟨⟨(rtake k st).1.toArray⟩,(rtake k st).2,by simp⟩
theorem textE (st:RS):∃(x:ByteArray) (s1:RS),rtext st=(x.data.toList,s1):=⟨⟨(rtext st).1.toArray⟩,(rtext st).2,by simp⟩
theorem take1 {st:RS} {x:ByteArray} {s1:RS} (e:rtake 1 st=(x.data.toList,s1)):x.size≤1:=by
 have:=congrArg (fun y=>y.1.length) e
 simp only[bytes_len]at this
 rw[←this]
 cases st with
 | none=>simp[rtake]
 | some l=>
  unfold rtake
  simp only
  split <;> simp;omega
theorem rcid_any (w:World) (R F:Nat) (A:Option Addr) (n c:Nat) (f:Fr) (st:RS) (h:RF w R F A n c f st):
  Calls Tryz.prog 135 #[.pointer (some ⟨R,0,none⟩),.pointer (some ⟨F,0,none⟩)] w fun e w'=>e=.returned (.tuple #[])∧RF w' R F A n c (rcid f st).1 (rcid f st).2∧Mod [R,F] w w':=by
 obtain⟨x1,s1,e1,b1⟩:=numE st
 obtain⟨x2,s2,e2,b2⟩:=numE s1
 obtain⟨x3,s3,e3⟩:=takeE 1 s2
 have hx3:=take1 e3
 have H:=hide h
 by_cases h0:x3.size=0
 ·have hE:rcid f st=({ f with a:=x1,b:=x2 },s3):=by
   unfold rcid
   simp only[e1,e2,e3,size0 h0]
  have HE:=hide hE
  have he0:=empty_true h0
  have E1:=hide e1
  have E2:=hide e2
  have E3:=hide e3
  clear h hE e1 e2 e3 hx3 h0
  go_enter Tryz.func135,Tryz.ntmps135
  go_wp2_with fail
  refine(H.out.num E1.out).mono ?_
  rintro e w1 ⟨rfl,h1,m1⟩
  go_wp2_with fail
  refine(h1.num E2.out).mono ?_
  rintro e w2 ⟨rfl,h2,m2⟩
  obtain⟨p0,p1,p2,p3,p4,p5,p6,p7⟩:=fcells h2.blk
  have hlF:=h2.blk.lt
  have q0:=h2.blk.frozen 0
  have q1:=h2.blk.frozen 1
  have q2:=h2.blk.frozen 2
  have q3:=h2.blk.frozen 3
  have q4:=h2.blk.frozen 4
  have q5:=h2.blk.frozen 5
  have q6:=h2.blk.frozen 6
  have h3:=hide ((h2.set_a x1).set_b x2)
  have m3:=hide (((m1.trans m2 (by simp)).setCell (p:=⟨F,1,none⟩) (.inl (by simp)) (.int .u64 x1)).setCell (p:=⟨F,2,none⟩) (.inl (by simp)) (.int .u64 x2))
  clear h1 h2 m1 m2
  go_wp2_with fail
  clear p0 p1 p2 p3 p4 p5 p6 p7 hlF q0 q1 q2 q3 q4 q5 q6
  refine(h3.out.take (by omega) E3.out).mono ?_
  rintro e w4 ⟨rfl,h4,m4⟩
  go_wp2_with fail
  refine bodyPost_ret (results_none rfl _ _ _) rfl ?_
  rw[HE.out]
  exact⟨rfl,h4,m3.out.trans m4 (by simp)⟩
 ·have h1:x3.size=1:=by omega
  obtain⟨y,hy⟩:∃y,x3.data.toList= [y]:=List.length_eq_one_iff.1 (by rw[bytes_len,h1])
  obtain⟨x4,s4,e4⟩:=takeE y.toNat s3
  obtain⟨x5,s5,e5⟩:=takeE 16 s4
  have hE:rcid f st=({ f with a:=x1,b:=x2,data:=x4,more:=x5 },s5):=by
   unfold rcid
   simp only[e1,e2,e3,e4,e5,hy,eta_bytes]
  have HE:=hide hE
  have he0:=empty_false h0
  have hg:x3[0]'(by omega)=y:=getElem_list x3 0 (by omega) y (by rw[hy];rfl)
  have hsz0:(0:Int) < x3.size:=by omega
  have hyl:=y.toNat_lt
  have E1:=hide e1
  have E2:=hide e2
  have E3:=hide e3
  have E4:=hide e4
  have E5:=hide e5
  clear h hE e1 e2 e3 e4 e5 hx3 h0 hy
  go_enter Tryz.func135,Tryz.ntmps135
  go_wp2_with fail
  refine(H.out.num E1.out).mono ?_
  rintro e w1 ⟨rfl,h1,m1⟩
  go_wp2_with fail
  refine(h1.num E2.out).mono ?_
  rintro e w2 ⟨rfl,h2,m2⟩
  obtain⟨p0,p1,p2,p3,p4,p5,p6,p7⟩:=fcells h2.blk
  have hlF:=h2.blk.lt
  have q0:=h2.blk.frozen 0
  have q1:=h2.blk.frozen 1
  have q2:=h2.blk.frozen 2
  have q3:=h2.blk.frozen 3
  have q4:=h2.blk.frozen 4
  have q5:=h2.blk.frozen 5
  have q6:=h2.blk.frozen 6
  have h3:=hide ((h2.set_a x1).set_b x2)
  have m3:=hide (((m1.trans m2 (by simp)).setCell (p:=⟨F,1,none⟩) (.inl (by simp)) (.int .u64 x1)).setCell (p:=⟨F,2,none⟩) (.inl (by simp)) (.int .u64 x2))
  clear h1 h2 m1 m2
  go_wp2_with fail
  clear p0 p1 p2 p3 p4 p5 p6 p7 hlF q0 q1 q2 q3 q4 q5 q6
  refine(h3.out.take (by omega) E3.out).mono ?_
  rintro e w4 ⟨rfl,h4,m4⟩
  go_wp2_with fail
  refine(h4.take (by omega) E4.out).mono ?_
  rintro e w5 ⟨rfl,h5,m5⟩
  obtain⟨p0,p1,p2,p3,p4,p5,p6,p7⟩:=fcells h5.blk
  have hlF:=h5.blk.lt
  have q0:=h5.blk.frozen 0
  have q1:=h5.blk.frozen 1
  have q2:=h5.blk.frozen 2
  have q3:=h5.blk.frozen 3
  have q4:=h5.blk.frozen 4
  have q5:=h5.blk.frozen 5
  have q6:=h5.blk.frozen 6
  have h6:=hide (h5.set_data x4)
  have m6:=hide (((m3.out.trans m4 (by simp)).trans m5 (by simp)).setCell (p:=⟨F,5,none⟩) (.inl (by simp)) (.string x4))
  clear h4 h5 m4 m5 h3 m3
  go_wp2_with fail
  clear p0 p1 p2 p3 p4 p5 p6 p7 hlF q0 q1 q2 q3 q4 q5 q6
  refine(h6.out.take (by omega) E5.out).mono ?_
  rintro e w7 ⟨rfl,h7,m7⟩
  obtain⟨p0,p1,p2,p3,p4,p5,p6,p7⟩:=fcells h7.blk
  have hlF:=h7.blk.lt
  have q0:=h7.blk.frozen 0
  have q1:=h7.blk.frozen 1
  have q2:=h7.blk.frozen 2
  have q3:=h7.blk.frozen 3
  have q4:=h7.blk.frozen 4
  have q5:=h7.blk.frozen 5
  have q6:=h7.blk.frozen 6
  have h8:=hide (h7.set_more x5)
  have m8:=hide ((m6.out.trans m7 (by simp)).setCell (p:=⟨F,6,none⟩) (.inl (by simp)) (.string x5))
  clear h7 m7 h6 m6
  go_wp2_with fail
  go_end0
  rw[HE.out]
  exact⟨rfl,h8.out,m8.out⟩
theorem and_bits {k:Nat} (h1:8≤k) (h2:k < 16):bits .and .u64 (k:Int) 4=((k / 4 % 2 * 4:Nat):Int)∧bits .and .u64 (k:Int) 2=((k / 2 % 2 * 2:Nat):Int)∧bits .and .u64 (k:Int) 1=((k % 2:Nat):Int):=by
 have:k=8∨k=9∨k=10∨k=11∨k=12∨k=13∨k=14∨k=15:=by omega
 rcases this with rfl | rfl | rfl | rfl | rfl | rfl | rfl | rfl <;> exact⟨by decide+kernel,by decide+kernel,by decide+kernel⟩
section
variable {w:World} {R F:Nat} {A:Option Addr} {n c:Nat} {f:Fr} {st:RS}
theorem RF.cells (h:RF w R F A n c f st):∃s:ByteArray,w.cell? ⟨R,0,none⟩=some (.string s)∧w.cell? ⟨R,1,none⟩=some (.bool st.isNone)∧w.frozen? ⟨R,0,none⟩=false∧w.frozen? ⟨R,1,none⟩=false∧R < w.heap.size∧s.size≤1000000∧∀l,st=some l→s.data.toList=l:=by
 obtain⟨s,h1,h2,h3⟩:=h.rd
 exact⟨s,h1.cell 0,h1.cell 1,h1.frozen 0,h1.frozen 1,h1.lt,h2,h3⟩
end
theorem rstream_any (w:World) (R F:Nat) (A:Option Addr) (n c:Nat) (f:Fr) (st:RS) (h:RF w R F A n c f st) (hk1:8≤f.kind) (hk2:f.kind < 16):
  Calls Tryz.prog 134 #[.pointer (some ⟨R,0,none⟩),.pointer (some ⟨F,0,none⟩)] w fun e w'=>e=.returned (.tuple #[])∧RF w' R F A n c (rstream f st).1 (rstream f st).2∧Mod [R,F] w w':=by
 obtain⟨k4,k2,k1⟩:=and_bits hk1 hk2
 obtain⟨x1,s1,e1,b1⟩:=numE st
 obtain⟨x2,s2,e2,b2⟩:=numE s1
 have hfin:(((f.kind % 2:Nat):Int) !=0)=decide (f.kind % 2=1):=by
  rcases Nat.mod_two_eq_zero_or_one f.kind with h | h <;> rw[h] <;> rfl
 obtain⟨fb,hfb⟩:∃b,decide (f.kind % 2=1)=b:=⟨_,rfl⟩
 obtain⟨s5,hs5⟩:∃s5:RS,(if f.kind / 4 % 2=1 then(if x2=0 then none else s2)else s1)=s5:=⟨_,rfl⟩
 obtain⟨s6,hs6⟩:∃s6:RS,(if f.kind / 2 % 2=0 then none else s5)=s6:=⟨_,rfl⟩
 obtain⟨x7,s7,e7⟩:=textE s6
 have hE:rstream f st=({ f with kind:=8,a:=x1,b:=if f.kind / 4 % 2=1 then x2 else f.b,fin:=fb,data:=x7 },s7):=by
  unfold rstream
  have a1:(if f.kind / 4 % 2=1 then(x2,if x2=0 then none else s2)else(f.b,s1))=((if f.kind / 4 % 2=1 then x2 else f.b),s5):=by
   rw[←hs5];split <;> rfl
  simp only[e1,e2,a1,hs6,e7,eta_bytes,hfb]
 rw[hfb]at hfin
 rw[Int.natCast_emod]at hfin
 replace hfin:((f.kind:Int) % 2 !=0)=fb:=hfin
 have H:=hide h
 have HE:=hide hE
 have E1:=hide e1
 have E2:=hide e2
 have E7:=hide e7
 have HS5:=hide hs5
 have HS6:=hide hs6
 clear h hE e1 e2 e7 hs5 hs6 hfb
 by_cases h4:f.kind / 4 % 2=1
 ·have HB4:=hide h4
  have j4:(((f.kind / 4 % 2 * 4:Nat):Int) !=0)=true:=by rw[h4];rfl
  clear h4
  cases s2 with
  | none=>
   obtain rfl:s5=none:=by rw[←HS5.out,if_pos HB4.out];split <;> rfl
   obtain rfl:s6=none:=by rw[←HS6.out];split <;> rfl
   go_enter Tryz.func134,Tryz.ntmps134
   obtain⟨p0,p1,p2,p3,p4,p5,p6,p7⟩:=fcells H.out.blk
   have hlF:=H.out.blk.lt
   have q0:=H.out.blk.frozen 0
   have q1:=H.out.blk.frozen 1
   have q2:=H.out.blk.frozen 2
   have q3:=H.out.blk.frozen 3
   have q4:=H.out.blk.frozen 4
   have q5:=H.out.blk.frozen 5
   have q6:=H.out.blk.frozen 6
   have h1:=hide (H.out.set_kind 8)
   have m1:=hide ((Mod.refl [R,F] w).setCell (p:=⟨F,0,none⟩) (.inl (by simp)) (.int .u64 (8:Nat)))
   go_wp2_with fail
   clear p0 p1 p2 p3 p4 p5 p6 p7 hlF q0 q1 q2 q3 q4 q5 q6
   refine(h1.out.num E1.out).mono ?_
   rintro e w2 ⟨rfl,h2,m2⟩
   obtain⟨p0,p1,p2,p3,p4,p5,p6,p7⟩:=fcells h2.blk
   have hlF:=h2.blk.lt
   have q0:=h2.blk.frozen 0
   have q1:=h2.blk.frozen 1
   have q2:=h2.blk.frozen 2
   have q3:=h2.blk.frozen 3
   have q4:=h2.blk.frozen 4
   have q5:=h2.blk.frozen 5
   have q6:=h2.blk.frozen 6
   have h3:=hide (h2.set_a x1)
   have m3:=hide ((m1.out.trans m2 (by simp)).setCell (p:=⟨F,1,none⟩) (.inl (by simp)) (.int .u64 x1))
   clear h1 m1 h2 m2
   go_wp2_with fail
   clear p0 p1 p2 p3 p4 p5 p6 p7 hlF q0 q1 q2 q3 q4 q5 q6
   refine(h3.out.num E2.out).mono ?_
   rintro e w4 ⟨rfl,h4,m4⟩
   obtain⟨p0,p1,p2,p3,p4,p5,p6,p7⟩:=fcells h4.blk
   have hlF:=h4.blk.lt
   have q0:=h4.blk.frozen 0
   have q1:=h4.blk.frozen 1
   have q2:=h4.blk.frozen 2
   have q3:=h4.blk.frozen 3
   have q4:=h4.blk.frozen 4
   have q5:=h4.blk.frozen 5
   have q6:=h4.blk.frozen 6
   obtain⟨sr,r0,r1,u0,u1,hlR,_,_⟩:=h4.cells
   first | simp only[Option.isNone_some]at r1 | simp only[Option.isNone_none]at r1
   have hne:=h4.ne
   have hne2:=Ne.symm hne
   have h5:=(h4.set_b x2).set_bad true none (.inl ⟨rfl,rfl⟩)
   have m5:=((m3.out.trans m4 (by simp)).setCell (p:=⟨F,2,none⟩) (.inl (by simp)) (.int .u64 x2)).setCell (p:=⟨R,1,none⟩) (.inl (by simp)) (.bool true)
   clear h3 m3 h4 m4
   have h7:=hide ((h5.set_bad true none (.inl ⟨rfl,rfl⟩)).set_fin fb)
   have m7:=hide ((m5.setCell (p:=⟨R,1,none⟩) (.inl (by simp)) (.bool true)).setCell (p:=⟨F,4,none⟩) (.inl (by simp)) (.bool fb))
   clear h5 m5
   go_wp2_with fail
   clear p0 p1 p2 p3 p4 p5 p6 p7 hlF q0 q1 q2 q3 q4 q5 q6
   clear r0 r1 u0 u1 hlR
   refine(h7.out.text E7.out).mono ?_
   rintro e w8 ⟨rfl,h8,m8⟩
   obtain⟨p0,p1,p2,p3,p4,p5,p6,p7⟩:=fcells h8.blk
   have hlF:=h8.blk.lt
   have q0:=h8.blk.frozen 0
   have q1:=h8.blk.frozen 1
   have q2:=h8.blk.frozen 2
   have q3:=h8.blk.frozen 3
   have q4:=h8.blk.frozen 4
   have q5:=h8.blk.frozen 5
   have q6:=h8.blk.frozen 6
   have h9:=hide (h8.set_data x7)
   have m9:=hide ((m7.out.trans m8 (by simp)).setCell (p:=⟨F,5,none⟩) (.inl (by simp)) (.string x7))
   clear h7 m7 h8 m8
   go_wp2_with fail
   go_end0
   rw[HE.out]
   rw[if_pos HB4.out]
   exact⟨rfl,h9.out,m9.out⟩
  | some l2=>
   by_cases hx2:x2=0
   ·have hxb:((x2:Int)==0)=true:=by simp;omega
    obtain rfl:s5=none:=by rw[←HS5.out,if_pos HB4.out,if_pos hx2]
    clear hx2
    obtain rfl:s6=none:=by rw[←HS6.out];split <;> rfl
    go_enter Tryz.func134,Tryz.ntmps134
    obtain⟨p0,p1,p2,p3,p4,p5,p6,p7⟩:=fcells H.out.blk
    have hlF:=H.out.blk.lt
    have q0:=H.out.blk.frozen 0
    have q1:=H.out.blk.frozen 1
    have q2:=H.out.blk.frozen 2
    have q3:=H.out.blk.frozen 3
    have q4:=H.out.blk.frozen 4
    have q5:=H.out.blk.frozen 5
    have q6:=H.out.blk.frozen 6
    have h1:=hide (H.out.set_kind 8)
    have m1:=hide ((Mod.refl [R,F] w).setCell (p:=⟨F,0,none⟩) (.inl (by simp)) (.int .u64 (8:Nat)))
    go_wp2_with fail
    clear p0 p1 p2 p3 p4 p5 p6 p7 hlF q0 q1 q2 q3 q4 q5 q6
    refine(h1.out.num E1.out).mono ?_
    rintro e w2 ⟨rfl,h2,m2⟩
    obtain⟨p0,p1,p2,p3,p4,p5,p6,p7⟩:=fcells h2.blk
    have hlF:=h2.blk.lt
    have q0:=h2.blk.frozen 0
    have q1:=h2.blk.frozen 1
    have q2:=h2.blk.frozen 2
    have q3:=h2.blk.frozen 3
    have q4:=h2.blk.frozen 4
    have q5:=h2.blk.frozen 5
    have q6:=h2.blk.frozen 6
    have h3:=hide (h2.set_a x1)
    have m3:=hide ((m1.out.trans m2 (by simp)).setCell (p:=⟨F,1,none⟩) (.inl (by simp)) (.int .u64 x1))
    clear h1 m1 h2 m2
    go_wp2_with fail
    clear p0 p1 p2 p3 p4 p5 p6 p7 hlF q0 q1 q2 q3 q4 q5 q6
    refine(h3.out.num E2.out).mono ?_
    rintro e w4 ⟨rfl,h4,m4⟩
    obtain⟨p0,p1,p2,p3,p4,p5,p6,p7⟩:=fcells h4.blk
    have hlF:=h4.blk.lt
    have q0:=h4.blk.frozen 0
    have q1:=h4.blk.frozen 1
    have q2:=h4.blk.frozen 2
    have q3:=h4.blk.frozen 3
    have q4:=h4.blk.frozen 4
    have q5:=h4.blk.frozen 5
    have q6:=h4.blk.frozen 6
    obtain⟨sr,r0,r1,u0,u1,hlR,_,_⟩:=h4.cells
    first | simp only[Option.isNone_some]at r1 | simp only[Option.isNone_none]at r1
    have hne:=h4.ne
    have hne2:=Ne.symm hne
    have h5:=(h4.set_b x2).set_bad true none (.inl ⟨rfl,rfl⟩)
    have m5:=((m3.out.trans m4 (by simp)).setCell (p:=⟨F,2,none⟩) (.inl (by simp)) (.int .u64 x2)).setCell (p:=⟨R,1,none⟩) (.inl (by simp)) (.bool true)
    clear h3 m3 h4 m4
    have h7:=hide ((h5.set_bad true none (.inl ⟨rfl,rfl⟩)).set_fin fb)
    have m7:=hide ((m5.setCell (p:=⟨R,1,none⟩) (.inl (by simp)) (.bool true)).setCell (p:=⟨F,4,none⟩) (.inl (by simp)) (.bool fb))
    clear h5 m5
    go_wp2_with fail
    clear p0 p1 p2 p3 p4 p5 p6 p7 hlF q0 q1 q2 q3 q4 q5 q6
    clear r0 r1 u0 u1 hlR
    refine(h7.out.text E7.out).mono ?_
    rintro e w8 ⟨rfl,h8,m8⟩
    obtain⟨p0,p1,p2,p3,p4,p5,p6,p7⟩:=fcells h8.blk
    have hlF:=h8.blk.lt
    have q0:=h8.blk.frozen 0
    have q1:=h8.blk.frozen 1
    have q2:=h8.blk.frozen 2
    have q3:=h8.blk.frozen 3
    have q4:=h8.blk.frozen 4
    have q5:=h8.blk.frozen 5
    have q6:=h8.blk.frozen 6
    have h9:=hide (h8.set_data x7)
    have m9:=hide ((m7.out.trans m8 (by simp)).setCell (p:=⟨F,5,none⟩) (.inl (by simp)) (.string x7))
    clear h7 m7 h8 m8
    go_wp2_with fail
    go_end0
    rw[HE.out]
    rw[if_pos HB4.out]
    exact⟨rfl,h9.out,m9.out⟩
   ·have hxb:((x2:Int)==0)=false:=by simp;omega
    obtain rfl:s5=some l2:=by rw[←HS5.out,if_pos HB4.out,if_neg hx2]
    clear hx2
    by_cases h2:f.kind / 2 % 2=0
    ·have j2:(((f.kind / 2 % 2 * 2:Nat):Int)==0)=true:=by rw[h2];rfl
     replace j2:((f.kind:Int) / 2 % 2 * 2==0)=true:=j2
     obtain rfl:s6=none:=by rw[←HS6.out,if_pos h2]
     clear h2
     go_enter Tryz.func134,Tryz.ntmps134
     obtain⟨p0,p1,p2,p3,p4,p5,p6,p7⟩:=fcells H.out.blk
     have hlF:=H.out.blk.lt
     have q0:=H.out.blk.frozen 0
     have q1:=H.out.blk.frozen 1
     have q2:=H.out.blk.frozen 2
     have q3:=H.out.blk.frozen 3
     have q4:=H.out.blk.frozen 4
     have q5:=H.out.blk.frozen 5
     have q6:=H.out.blk.frozen 6
     have h1:=hide (H.out.set_kind 8)
     have m1:=hide ((Mod.refl [R,F] w).setCell (p:=⟨F,0,none⟩) (.inl (by simp)) (.int .u64 (8:Nat)))
     go_wp2_with fail
     clear p0 p1 p2 p3 p4 p5 p6 p7 hlF q0 q1 q2 q3 q4 q5 q6
     refine(h1.out.num E1.out).mono ?_
     rintro e w2 ⟨rfl,h2,m2⟩
     obtain⟨p0,p1,p2,p3,p4,p5,p6,p7⟩:=fcells h2.blk
     have hlF:=h2.blk.lt
     have q0:=h2.blk.frozen 0
     have q1:=h2.blk.frozen 1
     have q2:=h2.blk.frozen 2
     have q3:=h2.blk.frozen 3
     have q4:=h2.blk.frozen 4
     have q5:=h2.blk.frozen 5
     have q6:=h2.blk.frozen 6
     have h3:=hide (h2.set_a x1)
     have m3:=hide ((m1.out.trans m2 (by simp)).setCell (p:=⟨F,1,none⟩) (.inl (by simp)) (.int .u64 x1))
     clear h1 m1 h2 m2
     go_wp2_with fail
     clear p0 p1 p2 p3 p4 p5 p6 p7 hlF q0 q1 q2 q3 q4 q5 q6
     refine(h3.out.num E2.out).mono ?_
     rintro e w4 ⟨rfl,h4,m4⟩
     obtain⟨p0,p1,p2,p3,p4,p5,p6,p7⟩:=fcells h4.blk
     have hlF:=h4.blk.lt
     have q0:=h4.blk.frozen 0
     have q1:=h4.blk.frozen 1
     have q2:=h4.blk.frozen 2
     have q3:=h4.blk.frozen 3
     have q4:=h4.blk.frozen 4
     have q5:=h4.blk.frozen 5
     have q6:=h4.blk.frozen 6
     obtain⟨sr,r0,r1,u0,u1,hlR,_,_⟩:=h4.cells
     first | simp only[Option.isNone_some]at r1 | simp only[Option.isNone_none]at r1
     have hne:=h4.ne
     have hne2:=Ne.symm hne
     have h5:=(h4.set_b x2).set_bad false (some l2) (.inr ⟨rfl,rfl,rfl⟩)
     have m5:=((m3.out.trans m4 (by simp)).setCell (p:=⟨F,2,none⟩) (.inl (by simp)) (.int .u64 x2)).setCell (p:=⟨R,1,none⟩) (.inl (by simp)) (.bool false)
     clear h3 m3 h4 m4
     have h7:=hide ((h5.set_bad true none (.inl ⟨rfl,rfl⟩)).set_fin fb)
     have m7:=hide ((m5.setCell (p:=⟨R,1,none⟩) (.inl (by simp)) (.bool true)).setCell (p:=⟨F,4,none⟩) (.inl (by simp)) (.bool fb))
     clear h5 m5
     go_wp2_with fail
     clear p0 p1 p2 p3 p4 p5 p6 p7 hlF q0 q1 q2 q3 q4 q5 q6
     clear r0 r1 u0 u1 hlR
     refine(h7.out.text E7.out).mono ?_
     rintro e w8 ⟨rfl,h8,m8⟩
     obtain⟨p0,p1,p2,p3,p4,p5,p6,p7⟩:=fcells h8.blk
     have hlF:=h8.blk.lt
     have q0:=h8.blk.frozen 0
     have q1:=h8.blk.frozen 1
     have q2:=h8.blk.frozen 2
     have q3:=h8.blk.frozen 3
     have q4:=h8.blk.frozen 4
     have q5:=h8.blk.frozen 5
     have q6:=h8.blk.frozen 6
     have h9:=hide (h8.set_data x7)
     have m9:=hide ((m7.out.trans m8 (by simp)).setCell (p:=⟨F,5,none⟩) (.inl (by simp)) (.string x7))
     clear h7 m7 h8 m8
     go_wp2_with fail
     go_end0
     rw[HE.out]
     rw[if_pos HB4.out]
     exact⟨rfl,h9.out,m9.out⟩
    ·have j2:(((f.kind / 2 % 2 * 2:Nat):Int)==0)=false:=by rw[show f.kind / 2 % 2=1 by omega];rfl
     replace j2:((f.kind:Int) / 2 % 2 * 2==0)=false:=j2
     obtain rfl:s6=some l2:=by rw[←HS6.out,if_neg h2]
     clear h2
     go_enter Tryz.func134,Tryz.ntmps134
     obtain⟨p0,p1,p2,p3,p4,p5,p6,p7⟩:=fcells H.out.blk
     have hlF:=H.out.blk.lt
     have q0:=H.out.blk.frozen 0
     have q1:=H.out.blk.frozen 1
     have q2:=H.out.blk.frozen 2
     have q3:=H.out.blk.frozen 3
     have q4:=H.out.blk.frozen 4
     have q5:=H.out.blk.frozen 5
     have q6:=H.out.blk.frozen 6
     have h1:=hide (H.out.set_kind 8)
     have m1:=hide ((Mod.refl [R,F] w).setCell (p:=⟨F,0,none⟩) (.inl (by simp)) (.int .u64 (8:Nat)))
     go_wp2_with fail
     clear p0 p1 p2 p3 p4 p5 p6 p7 hlF q0 q1 q2 q3 q4 q5 q6
     refine(h1.out.num E1.out).mono ?_
     rintro e w2 ⟨rfl,h2,m2⟩
     obtain⟨p0,p1,p2,p3,p4,p5,p6,p7⟩:=fcells h2.blk
     have hlF:=h2.blk.lt
     have q0:=h2.blk.frozen 0
     have q1:=h2.blk.frozen 1
     have q2:=h2.blk.frozen 2
     have q3:=h2.blk.frozen 3
     have q4:=h2.blk.frozen 4
     have q5:=h2.blk.frozen 5
     have q6:=h2.blk.frozen 6
     have h3:=hide (h2.set_a x1)
     have m3:=hide ((m1.out.trans m2 (by simp)).setCell (p:=⟨F,1,none⟩) (.inl (by simp)) (.int .u64 x1))
     clear h1 m1 h2 m2
     go_wp2_with fail
     clear p0 p1 p2 p3 p4 p5 p6 p7 hlF q0 q1 q2 q3 q4 q5 q6
     refine(h3.out.num E2.out).mono ?_
     rintro e w4 ⟨rfl,h4,m4⟩
     obtain⟨p0,p1,p2,p3,p4,p5,p6,p7⟩:=fcells h4.blk
     have hlF:=h4.blk.lt
     have q0:=h4.blk.frozen 0
     have q1:=h4.blk.frozen 1
     have q2:=h4.blk.frozen 2
     have q3:=h4.blk.frozen 3
     have q4:=h4.blk.frozen 4
     have q5:=h4.blk.frozen 5
     have q6:=h4.blk.frozen 6
     obtain⟨sr,r0,r1,u0,u1,hlR,_,_⟩:=h4.cells
     first | simp only[Option.isNone_some]at r1 | simp only[Option.isNone_none]at r1
     have hne:=h4.ne
     have hne2:=Ne.symm hne
     have h5:=(h4.set_b x2).set_bad false (some l2) (.inr ⟨rfl,rfl,rfl⟩)
     have m5:=((m3.out.trans m4 (by simp)).setCell (p:=⟨F,2,none⟩) (.inl (by simp)) (.int .u64 x2)).setCell (p:=⟨R,1,none⟩) (.inl (by simp)) (.bool false)
     clear h3 m3 h4 m4
     have h7:=hide ((h5.set_bad false (some l2) (.inr ⟨rfl,rfl,rfl⟩)).set_fin fb)
     have m7:=hide ((m5.setCell (p:=⟨R,1,none⟩) (.inl (by simp)) (.bool false)).setCell (p:=⟨F,4,none⟩) (.inl (by simp)) (.bool fb))
     clear h5 m5
     go_wp2_with fail
     clear p0 p1 p2 p3 p4 p5 p6 p7 hlF q0 q1 q2 q3 q4 q5 q6
     clear r0 r1 u0 u1 hlR
     refine(h7.out.text E7.out).mono ?_
     rintro e w8 ⟨rfl,h8,m8⟩
     obtain⟨p0,p1,p2,p3,p4,p5,p6,p7⟩:=fcells h8.blk
     have hlF:=h8.blk.lt
     have q0:=h8.blk.frozen 0
     have q1:=h8.blk.frozen 1
     have q2:=h8.blk.frozen 2
     have q3:=h8.blk.frozen 3
     have q4:=h8.blk.frozen 4
     have q5:=h8.blk.frozen 5
     have q6:=h8.blk.frozen 6
     have h9:=hide (h8.set_data x7)
     have m9:=hide ((m7.out.trans m8 (by simp)).setCell (p:=⟨F,5,none⟩) (.inl (by simp)) (.string x7))
     clear h7 m7 h8 m8
     go_wp2_with fail
     go_end0
     rw[HE.out]
     rw[if_pos HB4.out]
     exact⟨rfl,h9.out,m9.out⟩
 ·have HB4:=hide h4
  have j4:(((f.kind / 4 % 2 * 4:Nat):Int) !=0)=false:=by rw[show f.kind / 4 % 2=0 by omega];rfl
  clear h4
  cases s1 with
  | none=>
   obtain rfl:s5=none:=by rw[←HS5.out,if_neg HB4.out]
   obtain rfl:s6=none:=by rw[←HS6.out];split <;> rfl
   go_enter Tryz.func134,Tryz.ntmps134
   obtain⟨p0,p1,p2,p3,p4,p5,p6,p7⟩:=fcells H.out.blk
   have hlF:=H.out.blk.lt
   have q0:=H.out.blk.frozen 0
   have q1:=H.out.blk.frozen 1
   have q2:=H.out.blk.frozen 2
   have q3:=H.out.blk.frozen 3
   have q4:=H.out.blk.frozen 4
   have q5:=H.out.blk.frozen 5
   have q6:=H.out.blk.frozen 6
   have h1:=hide (H.out.set_kind 8)
   have m1:=hide ((Mod.refl [R,F] w).setCell (p:=⟨F,0,none⟩) (.inl (by simp)) (.int .u64 (8:Nat)))
   go_wp2_with fail
   clear p0 p1 p2 p3 p4 p5 p6 p7 hlF q0 q1 q2 q3 q4 q5 q6
   refine(h1.out.num E1.out).mono ?_
   rintro e w2 ⟨rfl,h2,m2⟩
   obtain⟨p0,p1,p2,p3,p4,p5,p6,p7⟩:=fcells h2.blk
   have hlF:=h2.blk.lt
   have q0:=h2.blk.frozen 0
   have q1:=h2.blk.frozen 1
   have q2:=h2.blk.frozen 2
   have q3:=h2.blk.frozen 3
   have q4:=h2.blk.frozen 4
   have q5:=h2.blk.frozen 5
   have q6:=h2.blk.frozen 6
   have h3:=hide (h2.set_a x1)
   have m3:=hide ((m1.out.trans m2 (by simp)).setCell (p:=⟨F,1,none⟩) (.inl (by simp)) (.int .u64 x1))
   obtain⟨sr,r0,r1,u0,u1,hlR,_,_⟩:=h2.cells
   first | simp only[Option.isNone_some]at r1 | simp only[Option.isNone_none]at r1
   have hne:=h2.ne
   have hne2:=Ne.symm hne
   have h5:=h3.out
   have m5:=m3.out
   clear h3 m3 h1 m1 h2 m2
   have h7:=hide ((h5.set_bad true none (.inl ⟨rfl,rfl⟩)).set_fin fb)
   have m7:=hide ((m5.setCell (p:=⟨R,1,none⟩) (.inl (by simp)) (.bool true)).setCell (p:=⟨F,4,none⟩) (.inl (by simp)) (.bool fb))
   clear h5 m5
   go_wp2_with fail
   clear p0 p1 p2 p3 p4 p5 p6 p7 hlF q0 q1 q2 q3 q4 q5 q6
   clear r0 r1 u0 u1 hlR
   refine(h7.out.text E7.out).mono ?_
   rintro e w8 ⟨rfl,h8,m8⟩
   obtain⟨p0,p1,p2,p3,p4,p5,p6,p7⟩:=fcells h8.blk
   have hlF:=h8.blk.lt
   have q0:=h8.blk.frozen 0
   have q1:=h8.blk.frozen 1
   have q2:=h8.blk.frozen 2
   have q3:=h8.blk.frozen 3
   have q4:=h8.blk.frozen 4
   have q5:=h8.blk.frozen 5
   have q6:=h8.blk.frozen 6
   have h9:=hide (h8.set_data x7)
   have m9:=hide ((m7.out.trans m8 (by simp)).setCell (p:=⟨F,5,none⟩) (.inl (by simp)) (.string x7))
   clear h7 m7 h8 m8
   go_wp2_with fail
   go_end0
   rw[HE.out]
   rw[if_neg HB4.out]
   exact⟨rfl,h9.out,m9.out⟩
  | some l1=>
   obtain rfl:s5=some l1:=by rw[←HS5.out,if_neg HB4.out]
   by_cases h2:f.kind / 2 % 2=0
   ·have j2:(((f.kind / 2 % 2 * 2:Nat):Int)==0)=true:=by rw[h2];rfl
    replace j2:((f.kind:Int) / 2 % 2 * 2==0)=true:=j2
    obtain rfl:s6=none:=by rw[←HS6.out,if_pos h2]
    clear h2
    go_enter Tryz.func134,Tryz.ntmps134
    obtain⟨p0,p1,p2,p3,p4,p5,p6,p7⟩:=fcells H.out.blk
    have hlF:=H.out.blk.lt
    have q0:=H.out.blk.frozen 0
    have q1:=H.out.blk.frozen 1
    have q2:=H.out.blk.frozen 2
    have q3:=H.out.blk.frozen 3
    have q4:=H.out.blk.frozen 4
    have q5:=H.out.blk.frozen 5
    have q6:=H.out.blk.frozen 6
    have h1:=hide (H.out.set_kind 8)
    have m1:=hide ((Mod.refl [R,F] w).setCell (p:=⟨F,0,none⟩) (.inl (by simp)) (.int .u64 (8:Nat)))
    go_wp2_with fail
    clear p0 p1 p2 p3 p4 p5 p6 p7 hlF q0 q1 q2 q3 q4 q5 q6
    refine(h1.out.num E1.out).mono ?_
    rintro e w2 ⟨rfl,h2,m2⟩
    obtain⟨p0,p1,p2,p3,p4,p5,p6,p7⟩:=fcells h2.blk
    have hlF:=h2.blk.lt
    have q0:=h2.blk.frozen 0
    have q1:=h2.blk.frozen 1
    have q2:=h2.blk.frozen 2
    have q3:=h2.blk.frozen 3
    have q4:=h2.blk.frozen 4
    have q5:=h2.blk.frozen 5
    have q6:=h2.blk.frozen 6
    have h3:=hide (h2.set_a x1)
    have m3:=hide ((m1.out.trans m2 (by simp)).setCell (p:=⟨F,1,none⟩) (.inl (by simp)) (.int .u64 x1))
    obtain⟨sr,r0,r1,u0,u1,hlR,_,_⟩:=h2.cells
    first | simp only[Option.isNone_some]at r1 | simp only[Option.isNone_none]at r1
    have hne:=h2.ne
    have hne2:=Ne.symm hne
    have h5:=h3.out
    have m5:=m3.out
    clear h3 m3 h1 m1 h2 m2
    have h7:=hide ((h5.set_bad true none (.inl ⟨rfl,rfl⟩)).set_fin fb)
    have m7:=hide ((m5.setCell (p:=⟨R,1,none⟩) (.inl (by simp)) (.bool true)).setCell (p:=⟨F,4,none⟩) (.inl (by simp)) (.bool fb))
    clear h5 m5
    go_wp2_with fail
    clear p0 p1 p2 p3 p4 p5 p6 p7 hlF q0 q1 q2 q3 q4 q5 q6
    clear r0 r1 u0 u1 hlR
    refine(h7.out.text E7.out).mono ?_
    rintro e w8 ⟨rfl,h8,m8⟩
    obtain⟨p0,p1,p2,p3,p4,p5,p6,p7⟩:=fcells h8.blk
    have hlF:=h8.blk.lt
    have q0:=h8.blk.frozen 0
    have q1:=h8.blk.frozen 1
    have q2:=h8.blk.frozen 2
    have q3:=h8.blk.frozen 3
    have q4:=h8.blk.frozen 4
    have q5:=h8.blk.frozen 5
    have q6:=h8.blk.frozen 6
    have h9:=hide (h8.set_data x7)
    have m9:=hide ((m7.out.trans m8 (by simp)).setCell (p:=⟨F,5,none⟩) (.inl (by simp)) (.string x7))
    clear h7 m7 h8 m8
    go_wp2_with fail
    go_end0
    rw[HE.out]
    rw[if_neg HB4.out]
    exact⟨rfl,h9.out,m9.out⟩
   ·have j2:(((f.kind / 2 % 2 * 2:Nat):Int)==0)=false:=by rw[show f.kind / 2 % 2=1 by omega];rfl
    replace j2:((f.kind:Int) / 2 % 2 * 2==0)=false:=j2
    obtain rfl:s6=some l1:=by rw[←HS6.out,if_neg h2]
    clear h2
    go_enter Tryz.func134,Tryz.ntmps134
    obtain⟨p0,p1,p2,p3,p4,p5,p6,p7⟩:=fcells H.out.blk
    have hlF:=H.out.blk.lt
    have q0:=H.out.blk.frozen 0
    have q1:=H.out.blk.frozen 1
    have q2:=H.out.blk.frozen 2
    have q3:=H.out.blk.frozen 3
    have q4:=H.out.blk.frozen 4
    have q5:=H.out.blk.frozen 5
    have q6:=H.out.blk.frozen 6
    have h1:=hide (H.out.set_kind 8)
    have m1:=hide ((Mod.refl [R,F] w).setCell (p:=⟨F,0,none⟩) (.inl (by simp)) (.int .u64 (8:Nat)))
    go_wp2_with fail
    clear p0 p1 p2 p3 p4 p5 p6 p7 hlF q0 q1 q2 q3 q4 q5 q6
    refine(h1.out.num E1.out).mono ?_
    rintro e w2 ⟨rfl,h2,m2⟩
    obtain⟨p0,p1,p2,p3,p4,p5,p6,p7⟩:=fcells h2.blk
    have hlF:=h2.blk.lt
    have q0:=h2.blk.frozen 0
    have q1:=h2.blk.frozen 1
    have q2:=h2.blk.frozen 2
    have q3:=h2.blk.frozen 3
    have q4:=h2.blk.frozen 4
    have q5:=h2.blk.frozen 5
    have q6:=h2.blk.frozen 6
    have h3:=hide (h2.set_a x1)
    have m3:=hide ((m1.out.trans m2 (by simp)).setCell (p:=⟨F,1,none⟩) (.inl (by simp)) (.int .u64 x1))
    obtain⟨sr,r0,r1,u0,u1,hlR,_,_⟩:=h2.cells
    first | simp only[Option.isNone_some]at r1 | simp only[Option.isNone_none]at r1
    have hne:=h2.ne
    have hne2:=Ne.symm hne
    have h5:=h3.out
    have m5:=m3.out
    clear h3 m3 h1 m1 h2 m2
    have h7:=hide ((h5.set_bad false (some l1) (.inr ⟨rfl,rfl,rfl⟩)).set_fin fb)
    have m7:=hide ((m5.setCell (p:=⟨R,1,none⟩) (.inl (by simp)) (.bool false)).setCell (p:=⟨F,4,none⟩) (.inl (by simp)) (.bool fb))
    clear h5 m5
    go_wp2_with fail
    clear p0 p1 p2 p3 p4 p5 p6 p7 hlF q0 q1 q2 q3 q4 q5 q6
    clear r0 r1 u0 u1 hlR
    refine(h7.out.text E7.out).mono ?_
    rintro e w8 ⟨rfl,h8,m8⟩
    obtain⟨p0,p1,p2,p3,p4,p5,p6,p7⟩:=fcells h8.blk
    have hlF:=h8.blk.lt
    have q0:=h8.blk.frozen 0
    have q1:=h8.blk.frozen 1
    have q2:=h8.blk.frozen 2
    have q3:=h8.blk.frozen 3
    have q4:=h8.blk.frozen 4
    have q5:=h8.blk.frozen 5
    have q6:=h8.blk.frozen 6
    have h9:=hide (h8.set_data x7)
    have m9:=hide ((m7.out.trans m8 (by simp)).setCell (p:=⟨F,5,none⟩) (.inl (by simp)) (.string x7))
    clear h7 m7 h8 m8
    go_wp2_with fail
    go_end0
    rw[HE.out]
    rw[if_neg HB4.out]
    exact⟨rfl,h9.out,m9.out⟩
section
variable {w:World} {R F:Nat} {A:Option Addr} {n c:Nat} {f:Fr} {st:RS}
theorem RF.alloc (h:RF w R F A n c f st) (o:Obj):RF (w.alloc o) R F A n c f st:=⟨h.blk.alloc o,h.rd.mod ((Mod.refl [] w).alloc o) (by simp)⟩
end
theorem rshN_ge {j n:Nat} (f:Fr) (st:RS) (h:¬j < n):rshN (j+1) n f st=rshN j n f st:=by
 have a1:(0 < j+1∧0 < n)↔(0 < j∧0 < n):=by omega
 have a2:(1 < j+1∧1 < n)↔(1 < j∧1 < n):=by omega
 have a3:(2 < j+1∧2 < n)↔(2 < j∧2 < n):=by omega
 unfold rshN
 simp only[a1,a2,a3]
theorem rshN0 {n:Nat} (f:Fr) (st:RS):rshN 0 n f st=(f,st):=by
 unfold rshN
 simp
theorem rshN1 {n:Nat} (f:Fr) (st:RS) (h:0 < n):rshN 1 n f st=({ (rshN 0 n f st).1 with a:=(rnum (rshN 0 n f st).2).1 },(rnum (rshN 0 n f st).2).2):=by
 unfold rshN
 simp[h]
theorem rshN2 {n:Nat} (f:Fr) (st:RS) (h:1 < n):rshN 2 n f st=({ (rshN 1 n f st).1 with b:=(rnum (rshN 1 n f st).2).1 },(rnum (rshN 1 n f st).2).2):=by
 unfold rshN
 simp[h,show 0 < n by omega]
theorem rshN3 {n:Nat} (f:Fr) (st:RS) (h:2 < n):rshN 3 n f st=({ (rshN 2 n f st).1 with c:=(rnum (rshN 2 n f st).2).1 },(rnum (rshN 2 n f st).2).2):=by
 unfold rshN
 simp[h,show 0 < n by omega,show 1 < n by omega]
theorem rshaped_any (w:World) (R F:Nat) (s:Shp) (hs:s.n≤3) (hx:s.x≤8) (A:Option Addr) (m c:Nat) (f:Fr) (st:RS) (h:RF w R F A m c f st):
  Calls Tryz.prog 131 #[.pointer (some ⟨R,0,none⟩),.pointer (some ⟨F,0,none⟩),shval s] w fun e w'=>e=.returned (.tuple #[])∧RF w' R F A m c (rshaped s f st).1 (rshaped s f st).2∧Mod [R,F] w w':=by
 obtain⟨n,t,x⟩:=s
 simp only at hs hx
 have h1:=h.alloc (.cells #[.int .i64 (n:Nat),.bool t,.int .i64 (x:Nat)] 109)
 have hsb:Blk (w.alloc (.cells #[.int .i64 (n:Nat),.bool t,.int .i64 (x:Nat)] 109)) w.heap.size 109 #[.int .i64 (n:Nat),.bool t,.int .i64 (x:Nat)]:=Blk.new _ _ _
 have hm:Mod [R,F] w (w.alloc (.cells #[.int .i64 (n:Nat),.bool t,.int .i64 (x:Nat)] 109)):=(Mod.refl _ _).alloc _
 have h2:=h1.alloc (.cells #[.pointer (some ⟨F,1,none⟩),.pointer (some ⟨F,2,none⟩),.pointer (some ⟨F,3,none⟩)] 150)
 have hsb2:=hsb.alloc (.cells #[.pointer (some ⟨F,1,none⟩),.pointer (some ⟨F,2,none⟩),.pointer (some ⟨F,3,none⟩)] 150)
 have hm2:=hm.alloc (.cells #[.pointer (some ⟨F,1,none⟩),.pointer (some ⟨F,2,none⟩),.pointer (some ⟨F,3,none⟩)] 150)
 have hpb:Blk ((w.alloc (.cells #[.int .i64 (n:Nat),.bool t,.int .i64 (x:Nat)] 109)).alloc (.cells #[.pointer (some ⟨F,1,none⟩),.pointer (some ⟨F,2,none⟩),.pointer (some ⟨F,3,none⟩)] 150)) (w.heap.size+1) 150 #[.pointer (some ⟨F,1,none⟩),.pointer (some ⟨F,2,none⟩),.pointer (some ⟨F,3,none⟩)]:=by
  have:=Blk.new (w.alloc (.cells #[.int .i64 (n:Nat),.bool t,.int .i64 (x:Nat)] 109)) 150 #[.pointer (some ⟨F,1,none⟩),.pointer (some ⟨F,2,none⟩),.pointer (some ⟨F,3,none⟩)]
  rw[World.size_alloc]at this
  exact this
 have hFl:=h.blk.lt
 have hRl:=h.rd.lt
 have H2:=hide h2
 have HSB2:=hide hsb2
 have HPB:=hide hpb
 have HM2:=hide hm2
 clear h h1 hsb hm h2 hsb2 hm2 hpb
 unfold shval
 go_enter Tryz.func131,Tryz.ntmps131
 go_wp2_with fail
 go_region
 obtain⟨w4,hw4⟩:∃w4,((w.alloc (.cells #[.int .i64 (n:Nat),.bool t,.int .i64 (x:Nat)] 109)).alloc (.cells #[.pointer (some ⟨F,1,none⟩),.pointer (some ⟨F,2,none⟩),.pointer (some ⟨F,3,none⟩)] 150)).drew=w4:=⟨_,rfl⟩
 have h4:RF w4 R F A m c f st:=by rw[←hw4];exact H2.out.drewN 1
 have hs4:Blk w4 w.heap.size 109 #[.int .i64 (n:Nat),.bool t,.int .i64 (x:Nat)]:=by rw[←hw4];exact HSB2.out
 have hp4:Blk w4 (w.heap.size+1) 150 #[.pointer (some ⟨F,1,none⟩),.pointer (some ⟨F,2,none⟩),.pointer (some ⟨F,3,none⟩)]:=by rw[←hw4];exact HPB.out
 have hm4:Mod [R,F] w w4:=by rw[←hw4];exact HM2.out.drew
 rw[hw4]
 obtain⟨sb,hse⟩:∃sb,w.heap.size=sb:=⟨_,rfl⟩
 have hsw:w.heap.size≤sb:=by omega
 rw[hse]at hs4 hp4 hFl hRl
 simp only[hse]
 have H4:=hide h4
 have HS4:=hide hs4
 have HP4:=hide hp4
 have HM4:=hide hm4
 clear H2 HSB2 HPB HM2 h4 hs4 hp4 hm4 hw4 hse hsw
 go_wp2_with fail
 go_loopw [19] (fun iv wr=>∃j:Nat,j≤3∧iv=.int .i64 (j:Int)∧RF wr R F A m c (rshN j n f st).1 (rshN j n f st).2∧Mod [R,F] w4 wr) (fun iv _=>3 - (intOf iv).toNat)
 case atStart=>exact⟨0,by omega,rfl,by rw[rshN0];exact H4.out,Mod.refl _ _⟩
 case round=>
  clear H4
  obtain⟨j,hj,rfl,hf,hm⟩:=hrel
  have hsb:=hm.blk HS4.out (by simp;omega)
  have hpb:=hm.blk HP4.out (by simp;omega)
  have s0:wr.cell? ⟨sb,0,none⟩=some (.int .i64 (n:Nat)):=hsb.cell 0
  have hsl:=hsb.lt
  have hpl:=hpb.lt
  by_cases h:j < 3
  ·by_cases hn:j < n
   ·have hlt:decide ((j:Int) < n)=true:=decide_eq_true (by omega)
    have j3:j=0∨j=1∨j=2:=by omega
    obtain⟨x1,s1,e1,b1⟩:=numE (rshN j n f st).2
    have E1:=hide e1
    rcases j3 with rfl | rfl | rfl
    ·have p0:wr.cell? ⟨sb+1,0,none⟩=some (.pointer (some ⟨F,1,none⟩)):=hpb.cell 0
     have hst:=rshN1 f st hn
     rw[e1]at hst
     have HSt:=hide hst
     have HF:=hide hf
     have HM:=hide hm
     clear e1 hst hf hm hsb hpb
     go_wp2_with fail
     refine(HF.out.num E1.out).mono ?_
     rintro e w6 ⟨rfl,h6,m6⟩
     obtain⟨p0,p1,p2,p3,p4,p5,p6,p7⟩:=fcells h6.blk
     have hlF:=h6.blk.lt
     have q0:=h6.blk.frozen 0
     have q1:=h6.blk.frozen 1
     have q2:=h6.blk.frozen 2
     have q3:=h6.blk.frozen 3
     have q4:=h6.blk.frozen 4
     have q5:=h6.blk.frozen 5
     have q6:=h6.blk.frozen 6
     have h7:=hide (h6.set_a x1)
     have m7:=hide (((HM.out.trans m6 (by simp)).setCell (p:=⟨F,1,none⟩) (.inl (by simp)) (.int .u64 x1)))
     clear h6 m6
     go_wp2_with fail
     go_roundw
     case rel=>exact⟨1,by omega,by go_num,by rw[HSt.out];exact h7.out,m7.out⟩
     case measure=>simp[intOf]
    ·have p0:wr.cell? ⟨sb+1,1,none⟩=some (.pointer (some ⟨F,2,none⟩)):=hpb.cell 1
     have hst:=rshN2 f st hn
     rw[e1]at hst
     have HSt:=hide hst
     have HF:=hide hf
     have HM:=hide hm
     clear e1 hst hf hm hsb hpb
     go_wp2_with fail
     refine(HF.out.num E1.out).mono ?_
     rintro e w6 ⟨rfl,h6,m6⟩
     obtain⟨p0,p1,p2,p3,p4,p5,p6,p7⟩:=fcells h6.blk
     have hlF:=h6.blk.lt
     have q0:=h6.blk.frozen 0
     have q1:=h6.blk.frozen 1
     have q2:=h6.blk.frozen 2
     have q3:=h6.blk.frozen 3
     have q4:=h6.blk.frozen 4
     have q5:=h6.blk.frozen 5
     have q6:=h6.blk.frozen 6
     have h7:=hide (h6.set_b x1)
     have m7:=hide (((HM.out.trans m6 (by simp)).setCell (p:=⟨F,2,none⟩) (.inl (by simp)) (.int .u64 x1)))
     clear h6 m6
     go_wp2_with fail
     go_roundw
     case rel=>exact⟨2,by omega,by go_num,by rw[HSt.out];exact h7.out,m7.out⟩
     case measure=>simp[intOf]
    ·have p0:wr.cell? ⟨sb+1,2,none⟩=some (.pointer (some ⟨F,3,none⟩)):=hpb.cell 2
     have hst:=rshN3 f st hn
     rw[e1]at hst
     have HSt:=hide hst
     have HF:=hide hf
     have HM:=hide hm
     clear e1 hst hf hm hsb hpb
     go_wp2_with fail
     refine(HF.out.num E1.out).mono ?_
     rintro e w6 ⟨rfl,h6,m6⟩
     obtain⟨p0,p1,p2,p3,p4,p5,p6,p7⟩:=fcells h6.blk
     have hlF:=h6.blk.lt
     have q0:=h6.blk.frozen 0
     have q1:=h6.blk.frozen 1
     have q2:=h6.blk.frozen 2
     have q3:=h6.blk.frozen 3
     have q4:=h6.blk.frozen 4
     have q5:=h6.blk.frozen 5
     have q6:=h6.blk.frozen 6
     have h7:=hide (h6.set_c x1)
     have m7:=hide (((HM.out.trans m6 (by simp)).setCell (p:=⟨F,3,none⟩) (.inl (by simp)) (.int .u64 x1)))
     clear h6 m6
     go_wp2_with fail
     go_roundw
     case rel=>exact⟨3,by omega,by go_num,by rw[HSt.out];exact h7.out,m7.out⟩
     case measure=>simp[intOf]
   ·have hlt:decide ((j:Int) < n)=false:=decide_eq_false (by omega)
    have hfin:=rshN_ge f st hn
    rw[←hfin]at hf
    have HF:=hide hf
    have j3:j=0∨j=1∨j=2:=by omega
    rcases j3 with rfl | rfl | rfl
    ·have p0:wr.cell? ⟨sb+1,0,none⟩=some (.pointer (some ⟨F,1,none⟩)):=hpb.cell 0
     clear hfin hsb hpb hf
     go_wp2_with fail
     go_roundw
     case rel=>exact⟨1,by omega,by go_num,HF.out,hm⟩
     case measure=>simp[intOf]
    ·have p0:wr.cell? ⟨sb+1,1,none⟩=some (.pointer (some ⟨F,2,none⟩)):=hpb.cell 1
     clear hfin hsb hpb hf
     go_wp2_with fail
     go_roundw
     case rel=>exact⟨2,by omega,by go_num,HF.out,hm⟩
     case measure=>simp[intOf]
    ·have p0:wr.cell? ⟨sb+1,2,none⟩=some (.pointer (some ⟨F,3,none⟩)):=hpb.cell 2
     clear hfin hsb hpb hf
     go_wp2_with fail
     go_roundw
     case rel=>exact⟨3,by omega,by go_num,HF.out,hm⟩
     case measure=>simp[intOf]
  ·have hj3:j=3:=by omega
   subst hj3
   have s1:wr.cell? ⟨sb,1,none⟩=some (.bool t):=hsb.cell 1
   have s2:wr.cell? ⟨sb,2,none⟩=some (.int .i64 (x:Nat)):=hsb.cell 2
   obtain⟨g3,s3,hg3⟩:∃g3 s3,rshN 3 n f st=(g3,s3):=⟨_,_,rfl⟩
   rw[hg3]at hf
   simp only at hf
   have HF:=hide hf
   have HM:=hide (HM4.out.trans hm (by simp))
   clear hf hm
   have j4:(3:Int)≤3:=by omega
   cases t with
   | true=>
    obtain⟨x7,s7,e7⟩:=textE s3
    have hE:rshaped ⟨n,true,x⟩ f st=({ g3 with data:=x7 },s7):=by
     unfold rshaped rtail
     simp[hg3,e7]
    have HE:=hide hE
    have E7:=hide e7
    clear hE e7 hg3 hsb hpb
    go_wp2_with fail
    refine(HF.out.text E7.out).mono ?_
    rintro e w6 ⟨rfl,h6,m6⟩
    obtain⟨p0,p1,p2,p3,p4,p5,p6,p7⟩:=fcells h6.blk
    have hlF:=h6.blk.lt
    have q0:=h6.blk.frozen 0
    have q1:=h6.blk.frozen 1
    have q2:=h6.blk.frozen 2
    have q3:=h6.blk.frozen 3
    have q4:=h6.blk.frozen 4
    have q5:=h6.blk.frozen 5
    have q6:=h6.blk.frozen 6
    have h7:=hide (h6.set_data x7)
    have m7:=hide (((HM.out.trans m6 (by simp)).setCell (p:=⟨F,5,none⟩) (.inl (by simp)) (.string x7)))
    clear h6 m6
    go_wp2_with fail
    go_end0
    rw[HE.out]
    exact⟨rfl,h7.out,m7.out⟩
   | false=>
    by_cases hx0:0 < x
    ·obtain⟨x7,s7,e7⟩:=takeE x s3
     have hE:rshaped ⟨n,false,x⟩ f st=({ g3 with data:=x7 },s7):=by
      unfold rshaped rtail
      simp[hg3,e7,hx0]
     have HE:=hide hE
     have E7:=hide e7
     have hxi:(0:Int) < x:=by omega
     clear hE e7 hg3 hsb hpb
     go_wp2_with fail
     refine(HF.out.take (by omega) E7.out).mono ?_
     rintro e w6 ⟨rfl,h6,m6⟩
     obtain⟨p0,p1,p2,p3,p4,p5,p6,p7⟩:=fcells h6.blk
     have hlF:=h6.blk.lt
     have q0:=h6.blk.frozen 0
     have q1:=h6.blk.frozen 1
     have q2:=h6.blk.frozen 2
     have q3:=h6.blk.frozen 3
     have q4:=h6.blk.frozen 4
     have q5:=h6.blk.frozen 5
     have q6:=h6.blk.frozen 6
     have h7:=hide (h6.set_data x7)
     have m7:=hide (((HM.out.trans m6 (by simp)).setCell (p:=⟨F,5,none⟩) (.inl (by simp)) (.string x7)))
     clear h6 m6
     go_wp2_with fail
     go_end0
     rw[HE.out]
     exact⟨rfl,h7.out,m7.out⟩
    ·have hE:rshaped ⟨n,false,x⟩ f st=(g3,s3):=by
      unfold rshaped
      simp[hg3,hx0]
     have HE:=hide hE
     have hxi:¬(0:Int) < x:=by omega
     clear hE hg3 hsb hpb
     go_wp2_with fail
     go_end0
     rw[HE.out]
     exact⟨rfl,HF.out,HM.out⟩
def rcells (x:Nat×Nat):List Value:= [.int .u64 (x.1:Nat),.int .u64 (x.2:Nat)]
theorem rangeInfo:(Tryz.prog.info? 77).map (fun i=>(i.zero,i.size,i.bytes))=some (some (.agg #[.int .u64 0,.int .u64 0]),2,16):=by kernel_rfl
theorem flat_get {α:Type} (f:α→List Value) (k:Nat) (hf:∀x,(f x).length=k):∀(l:List α) (i j:Nat) (x:α),l[i]? =some x→j < k→(l.flatMap f)[i * k+j]? =(f x)[j]?
 | [],i,j,x,h,_=>by simp at h
 | y ::l,0,j,x,h,hj=>by
  simp at h
  subst h
  rw[List.flatMap_cons,Nat.zero_mul,Nat.zero_add,List.getElem?_append_left (by rw[hf];exact hj)]
 | y ::l,i+1,j,x,h,hj=>by
  rw[List.flatMap_cons,List.getElem?_append_right (by rw[hf,Nat.add_mul];omega),hf]
  have e:(i+1) * k+j - k=i * k+j:=by rw[Nat.add_mul];omega
  rw[e]
  exact flat_get f k hf l i j x (by simpa using h) hj
def ROwn (w:World) (B:Nat) (A:Option Addr) (c:Nat) (l:List (Nat×Nat)):Prop:=w.ownsRow B 77 2 (.slice A l.length c) l.length (l.flatMap rcells)
theorem ROwn.nil (w:World) (B:Nat):ROwn w B none 0 []:=World.ownsRow_nil _ _ _ _
theorem ROwn.mod {F:List Nat} {w w':World} {B:Nat} {A:Option Addr} {c:Nat} {l:List (Nat×Nat)} (h:ROwn w B A c l) (m:Mod F w w') (hF:∀g o,A=some ⟨g,o,none⟩→g∉F):ROwn w' B A c l:=
 m.own h (fun k hk=>by
  cases A with
  | none=>simp[Value.ownBlock]at hk
  | some a=>
   have:a.block=k:=by simpa [Value.ownBlock] using hk
   subst this
   rcases h.2 with⟨h0,_⟩ | ⟨g,cap,cur,hv,_⟩
   ·cases h0
   ·cases hv
    exact hF _ _ rfl)
theorem ROwn.base {w:World} {B B':Nat} {A:Option Addr} {c:Nat} {l:List (Nat×Nat)} (h:ROwn w B A c l) (hB:B'≤B):ROwn w B' A c l:=by
 refine⟨h.1,?_⟩
 rcases h.2 with h0 | ⟨g,cap,cur,hv,hg,r⟩
 ·exact .inl h0
 ·exact .inr ⟨g,cap,cur,hv,Nat.le_trans hB hg,r⟩
theorem ROwn.ne {w:World} {B:Nat} {A:Option Addr} {c:Nat} {l:List (Nat×Nat)} (h:ROwn w B A c l) {g0:Nat} {t:TypeId} {cs:Array Value} (hb:Blk w g0 t cs) (ht:77≠t):∀g o,A=some ⟨g,o,none⟩→g≠g0:=by
 rintro g o rfl
 exact own_blk_ne h hb ht g rfl
theorem ROwn.rngs {w:World} {B:Nat} {A:Option Addr} {c:Nat} {l:List (Nat×Nat)} (h:ROwn w B A c l) (hl:l.length≤4611686018427387904):Rngs w A l.length l:=by
 refine⟨rfl,hl,?_⟩
 rcases h.2 with⟨h0,h1⟩ | ⟨g,cap,cur,hv,_,hh,_⟩
 ·left
  have:=congrArg (fun v=>match v with | Value.slice _ n _=>n | _=>0) h0
  exact this
 ·cases hv
  refine .inr ⟨g,0,rfl,Blk.lt hh,fun i x hx=> ?_⟩
  have hc:=(World.ownsRow.cells h (g:=g) rfl)
  have l2:∀y,(rcells y).length=2:=fun _=>rfl
  have a:=hc (i * 2) _ ((flat_get rcells 2 l2 l i 0 x hx (by omega)).trans rfl)
  have b:=hc (i * 2+1) _ ((flat_get rcells 2 l2 l i 1 x hx (by omega)).trans rfl)
  rw[Addr.add_lit]at a b
  exact⟨a,by rw[Nat.add_assoc];exact b⟩
theorem rrng_hi {k high x1:Nat} {f:Fr} {l:List UInt8} {s1:RS} (e:rnum (some l)=(x1,s1)) (h:high < x1):rrng k high f (some l)=(f,none):=by
 cases k with
 | zero=>unfold rrng;rw[e,if_pos h]
 | succ k=>unfold rrng;rw[e,if_pos h]
theorem rrng_end {high x1:Nat} {f:Fr} {l:List UInt8} {s1:RS} (e:rnum (some l)=(x1,s1)) (h:¬high < x1):rrng 0 high f (some l)=({ f with list:=f.list++ [(high - x1,high)] },s1):=by
 unfold rrng;rw[e,if_neg h]
theorem rrng_gap {k high x1 x2:Nat} {f:Fr} {l:List UInt8} {s1 s2:RS} (e:rnum (some l)=(x1,s1)) (e2:rnum s1=(x2,s2)) (h:¬high < x1) (h2:high - x1 < x2+2):rrng (k+1) high f (some l)=({ f with list:=f.list++ [(high - x1,high)] },none):=by
 conv=>lhs;unfold rrng
 simp only[e,e2]
 rw[if_neg h,if_pos h2]
theorem rrng_step {k high x1 x2:Nat} {f:Fr} {l:List UInt8} {s1 s2:RS} (e:rnum (some l)=(x1,s1)) (e2:rnum s1=(x2,s2)) (h:¬high < x1) (h2:¬high - x1 < x2+2):rrng (k+1) high f (some l)=rrng k (high - x1 - x2 - 2) { f with list:=f.list++ [(high - x1,high)] } s2:=by
 conv=>lhs;unfold rrng
 simp only[e,e2]
 rw[if_neg h,if_neg h2]
def RPostR (w:World) (R F:Nat) (x:Fr×RS) (w':World):Prop:=∃A c,RF w' R F A x.1.list.length c x.1 x.2∧ROwn w' w.heap.size A c x.1.list∧x.1.list.length≤64∧Mod [R,F] w w'
theorem RPostR.of {w w':World} {R F:Nat} {x y:Fr×RS} {A:Option Addr} {c:Nat} (e:y=x) (h:RF w' R F A x.1.list.length c x.1 x.2) (o:ROwn w' w.heap.size A c x.1.list) (hl:x.1.list.length≤64) (m:Mod [R,F] w w'):RPostR w R F y w':=by
 subst e;exact⟨A,c,h,o,hl,m⟩
theorem rranges_any (w:World) (R F:Nat) (f:Fr) (st:RS) (hf0:f.list= []) (h:RF w R F none 0 0 f st):
  Calls Tryz.prog 173 #[.pointer (some ⟨R,0,none⟩),.pointer (some ⟨F,0,none⟩)] w fun e w'=>e=.returned (.tuple #[])∧RPostR w R F (rranges f st) w':=by
 obtain⟨hi0,s1,e1,b1⟩:=numE st
 obtain⟨a0,s2,e2,b2⟩:=numE s1
 obtain⟨mo,s3,e3,b3⟩:=numE s2
 have hV:rranges f st=if 64≤mo then({ f with a:=a0 },none)else rrng mo hi0 { f with a:=a0 } s3:=by
  unfold rranges
  simp only[e1,e2,e3]
 have HV:=hide hV
 have E1:=hide e1
 have E2:=hide e2
 have E3:=hide e3
 have H:=hide h
 have HF0:=hide hf0
 have HL0:Hid (f.list.length=0):=hide (by rw[hf0];rfl)
 have hFl:=h.blk.lt
 have hRl:=h.rd.lt
 clear h hV e1 e2 e3 hf0
 go_enter Tryz.func173,Tryz.ntmps173
 go_wp2_with fail
 refine(H.out.num E1.out).mono ?_
 rintro e w1 ⟨rfl,h1,m1⟩
 go_wp2_with fail
 refine(h1.num E2.out).mono ?_
 rintro e w2 ⟨rfl,h2,m2⟩
 obtain⟨p0,p1,p2,p3,p4,p5,p6,p7⟩:=fcells h2.blk
 have hlF:=h2.blk.lt
 have q0:=h2.blk.frozen 0
 have q1:=h2.blk.frozen 1
 have q2:=h2.blk.frozen 2
 have q3:=h2.blk.frozen 3
 have q4:=h2.blk.frozen 4
 have q5:=h2.blk.frozen 5
 have q6:=h2.blk.frozen 6
 have h3:=hide (h2.set_a a0)
 have m3:=hide ((m1.trans m2 (by simp)).setCell (p:=⟨F,1,none⟩) (.inl (by simp)) (.int .u64 a0))
 clear h1 m1 h2 m2
 go_wp2_with fail
 clear p0 p1 p2 p3 p4 p5 p6 p7 hlF q0 q1 q2 q3 q4 q5 q6
 refine(h3.out.num E3.out).mono ?_
 rintro e w4 ⟨rfl,h4,m4⟩
 have H4:=hide h4
 have M4:=hide (m3.out.trans m4 (by simp))
 by_cases h64:64≤mo
 ·have h64i:(64:Int)≤mo:=by omega
  have HV2:=hide (HV.out.trans (if_pos h64))
  obtain⟨sr,r0,r1,u0,u1,hlR,_,_⟩:=H4.out.cells
  have hz:=hide (H4.out.set_bad true none (.inl ⟨rfl,rfl⟩))
  have mz:=hide (M4.out.setCell (p:=⟨R,1,none⟩) (.inl (by simp)) (.bool true))
  clear h64 h4 m4 h3 m3 H M4 H4
  go_wp2_with fail
  refine bodyPost_ret (results_none rfl _ _ _) rfl ?_
  exact⟨rfl,RPostR.of HV2.out (A:=none) (c:=0) (by show RF _ R F none f.list.length 0 _ _;rw[HL0.out];exact hz.out) (by show ROwn _ _ none 0 f.list;rw[HF0.out];exact ROwn.nil _ _) (by simp[HF0.out]) mz.out⟩
 ·have h64i:¬(64:Int)≤mo:=by omega
  have HV2:=hide (HV.out.trans (if_neg h64))
  clear h4 m4 h3 m3 H HV
  go_wp2_with fail
  go_loopw [4,6] (fun hv iv wr=>∃(j high:Nat) (g:Fr) (s:RS) (A:Option Addr) (c:Nat),j≤mo∧hv=.int .u64 (high:Int)∧iv=.int .u64 (j:Int)∧high < 4611686018427387904∧Hid (RF wr R F A g.list.length c g s)∧Hid (ROwn wr w.heap.size A c g.list)∧Hid (g.list.length=j)∧Hid (rranges f st=rrng (mo - j) high g s)∧Hid (Mod [R,F] w wr)) (fun _ iv _=>65 - (intOf iv).toNat)
  case atStart=>exact⟨0,hi0,{ f with a:=a0 },s3,none,0,by omega,rfl,rfl,b1,hide (by show RF _ R F none f.list.length 0 _ _;rw[HL0.out];exact H4.out),hide (by show ROwn _ _ none 0 f.list;rw[HF0.out];exact ROwn.nil _ _),hide HL0.out,HV2,M4⟩
  case round=>
   clear H4 M4 HV2 E1 E2 E3
   obtain⟨j,high,g,s,A,c,hj,rfl,rfl,hhi,hf,ho,hgl,hres,hm⟩:=hrel
   cases s with
   | none=>
    have HE:=hide (hres.out.trans (rrng_none _ _ _))
    obtain⟨sr,r0,r1,u0,u1,hlR,_,_⟩:=hf.out.cells
    simp only[Option.isNone_none]at r1
    clear hres
    go_wp2_with fail
    go_end0
    exact⟨rfl,RPostR.of HE.out hf.out ho.out (show g.list.length≤64 by have:=hgl.out;omega) hm.out⟩
   | some l=>
    obtain⟨x1,s1,e1,b1⟩:=numE (some l)
    have E1:=hide e1
    obtain⟨sr,r0,r1,u0,u1,hlR,_,_⟩:=hf.out.cells
    simp only[Option.isNone_some]at r1
    by_cases hx:high < x1
    ·have hxi:(high:Int) < x1:=by omega
     have HE:=hide (hres.out.trans (rrng_hi e1 hx))
     clear hres hx e1
     go_wp2_with fail
     refine(hf.out.num E1.out).mono ?_
     rintro e w5 ⟨rfl,h5,m5⟩
     have ho5:=ho.out.mod m5 (by
      rintro g o hA hmem
      obtain⟨s,hr,_⟩:=hf.out.rd
      have a1:=ho.out.ne hf.out.blk (by decide) g o hA
      have a2:=ho.out.ne hr (by decide) g o hA
      simp at hmem
      rcases hmem with h | h <;> contradiction)
     have m5':=hm.out.trans m5 (by simp)
     clear r0 r1 u0 u1 hlR
     obtain⟨sr,r0,r1,u0,u1,hlR,_,_⟩:=h5.cells
     have hz:=hide (h5.set_bad true none (.inl ⟨rfl,rfl⟩))
     have mz:=hide (m5'.setCell (p:=⟨R,1,none⟩) (.inl (by simp)) (.bool true))
     have hne1:=h5.ne
     have hoz:=hide (ho5.mod ((Mod.refl [R] w5).setCell (p:=⟨R,1,none⟩) (.inl (by simp)) (.bool true)) (by
      rintro g o hA hmem
      obtain⟨s,hr,_⟩:=h5.rd
      have a2:=ho5.ne hr (by decide) g o hA
      simp at hmem
      contradiction))
     clear h5 m5 m5' ho5
     go_wp2_with fail
     refine bodyPost_ret (results_none rfl _ _ _) rfl ?_
     exact⟨rfl,RPostR.of HE.out hz.out hoz.out (show g.list.length≤64 by have:=hgl.out;omega) mz.out⟩
    ·have hxi:¬(high:Int) < x1:=by omega
     obtain⟨lo,hlo⟩:∃lo,high - x1=lo:=⟨_,rfl⟩
     have hlo':(high:Int) - x1=lo:=by omega
     have hlob:lo < 4611686018427387904:=by omega
     go_wp2_with fail
     refine(hf.out.num E1.out).mono ?_
     rintro e w5 ⟨rfl,h5,m5⟩
     have ho5:=ho.out.mod m5 (by
      rintro g o hA hmem
      obtain⟨s,hr,_⟩:=hf.out.rd
      have a1:=ho.out.ne hf.out.blk (by decide) g o hA
      have a2:=ho.out.ne hr (by decide) g o hA
      simp at hmem
      rcases hmem with h | h <;> contradiction)
     have m5':=hm.out.trans m5 (by simp)
     clear r0 r1 u0 u1 hlR
     have h6:=h5.alloc (.cells #[.int .u64 (lo:Nat),.int .u64 (high:Nat)] 77)
     have ho6:ROwn (w5.alloc (.cells #[.int .u64 (lo:Nat),.int .u64 (high:Nat)] 77)) w.heap.size A c g.list:=ho5.mod ((Mod.refl [] w5).alloc _) (by simp)
     have m6:=m5'.alloc (.cells #[.int .u64 (lo:Nat),.int .u64 (high:Nat)] 77)
     have hws:=m5'.size
     have hgl':=hgl.out
     obtain⟨A',c',w7,hrun,hown7,m7,hb7⟩:=app_one (P:=Tryz.prog) Tryz.underlying34 rangeInfo rfl (w5.alloc (.cells #[.int .u64 (lo:Nat),.int .u64 (high:Nat)] 77)) 34 w.heap.size _ g.list.length _ ho6 (by simp;omega)
      [.int .u64 (lo:Nat),.int .u64 (high:Nat)] rfl (by intro u hu;simp at hu;rcases hu with rfl | rfl <;> rfl) (by omega) (by omega) w5.heap.size (fun j u hu=>by rw[(Blk.new w5 _ _).cell j];simpa using hu)
     have hfar:∀k,k∈(Value.slice A g.list.length c).ownBlock.toList→k≠F∧k≠R:=by
      intro k hk
      have hk':(Value.slice A g.list.length c).ownBlock=some k:=by simpa using hk
      obtain⟨s,hr,_⟩:=h6.rd
      exact⟨own_blk_ne ho6 h6.blk (by decide) k hk',own_blk_ne ho6 hr (by decide) k hk'⟩
     have h7:RF w7 R F A g.list.length c g s1:=⟨m7.blk h6.blk (fun hk=>(hfar F hk).1 rfl),h6.rd.mod m7 (fun hk=>(hfar R hk).2 rfl)⟩
     have m7':Mod [R,F] w w7:=m6.trans m7 (fun x hx=>by
      right
      simp at hx
      exact(ho6.lt x hx).1)
     have hlen2:Hid ((g.list++ [(lo,high)]).length=j+1):=hide (by simp[hgl.out])
     have ho7:ROwn w7 w.heap.size A' c' (g.list++ [(lo,high)]):=by
      have e:(g.list++ [(lo,high)]).length=g.list.length+1:=by simp
      unfold ROwn
      rw[e,List.flatMap_append]
      exact hown7
     have h8:RF (w7.setCell ⟨F,7,none⟩ (.slice A' (g.list.length+1) c')) R F A' (g.list++ [(lo,high)]).length c' { g with list:=g.list++ [(lo,high)] } s1:=by
      refine⟨?_,h7.rd.setF h7.ne⟩
      have:=h7.blk.set_ 7 (.slice A' (g.list.length+1) c')
      rw[show(g.list++ [(lo,high)]).length=g.list.length+1 by simp]
      exact this
     have m8:=hide (m7'.setCell (p:=⟨F,7,none⟩) (.inl (by simp)) (.slice A' (g.list.length+1) c'))
     have ho8:=hide (ho7.mod ((Mod.refl [F] w7).setCell (p:=⟨F,7,none⟩) (.inl (by simp)) (.slice A' (g.list.length+1) c')) (by
      rintro g' o hA hmem
      have a2:=ho7.ne h7.blk (by decide) g' o hA
      simp at hmem
      contradiction))
     have H8:=hide h8
     have HRun:=hide hrun
     have q7:=h7.blk.frozen 7
     have p7:w7.cell? ⟨F,7,none⟩=some (.slice A g.list.length c):=h7.blk.cell 7
     have hl7:=h7.blk.lt
     have pp7:(w5.alloc (.cells #[.int .u64 (lo:Nat),.int .u64 (high:Nat)] 77)).cell? ⟨F,7,none⟩=some (.slice A g.list.length c):=h6.blk.cell 7
     have p57:w5.cell? ⟨F,7,none⟩=some (.slice A g.list.length c):=h5.blk.cell 7
     have hl5:=h5.blk.lt
     have hl6:=h6.blk.lt
     clear hgl' h5 m5 m5' ho5 h6 ho6 m6 hrun hown7 m7 hb7 hfar h7 m7' ho7 h8
     by_cases hjm:j=mo
     ·have HE:=hide (hres.out.trans ((congrArg (fun k=>rrng k high g (some l)) (show mo - j=0 by omega)).trans (rrng_end e1 hx)))
      rw[hlo]at HE
      have hjb:((j:Int)==(mo:Int))=true:=by simp;omega
      clear hres hx e1 hlo
      go_wp2_with (at_builtin;refine Lib.wpList_append_run _ rfl (.tmp 46) (.tmp 50) 34 34 rfl (.slice A g.list.length c) (.slice (some ⟨w5.heap.size,0,none⟩) 1 1) rfl rfl _ w7 HRun.out ?_)
      refine bodyPost_ret (results_none rfl _ _ _) rfl ?_
      exact⟨rfl,RPostR.of HE.out H8.out ho8.out (show(g.list++ [(lo,high)]).length≤64 by have:=hlen2.out;omega) m8.out⟩
     ·obtain⟨x2,s2,e2,b2⟩:=numE s1
      have E2:=hide e2
      have hjb:((j:Int)==(mo:Int))=false:=by simp;omega
      by_cases hg2:lo < x2+2
      ·have HE:=hide (hres.out.trans ((congrArg (fun k=>rrng k high g (some l)) (show mo - j=(mo - j - 1)+1 by omega)).trans (rrng_gap e1 e2 hx (by omega))))
       rw[hlo]at HE
       have hg2i:(lo:Int) < (x2:Int)+2:=by omega
       clear hres hx e1 e2 hlo hg2
       go_wp2_with (at_builtin;refine Lib.wpList_append_run _ rfl (.tmp 46) (.tmp 50) 34 34 rfl (.slice A g.list.length c) (.slice (some ⟨w5.heap.size,0,none⟩) 1 1) rfl rfl _ w7 HRun.out ?_)
       refine(H8.out.num E2.out).mono ?_
       rintro e w9 ⟨rfl,h9,m9⟩
       have ho9:=ho8.out.mod m9 (by
        rintro g o hA hmem
        obtain⟨s,hr,_⟩:=H8.out.rd
        have a1:=ho8.out.ne H8.out.blk (by decide) g o hA
        have a2:=ho8.out.ne hr (by decide) g o hA
        simp at hmem
        rcases hmem with h | h <;> contradiction)
       have m9':=m8.out.trans m9 (by simp)
       clear q7 p7 hl7 pp7 p57
       obtain⟨sr,r0,r1,u0,u1,hlR,_,_⟩:=h9.cells
       have hz:=hide (h9.set_bad true none (.inl ⟨rfl,rfl⟩))
       have mz:=hide (m9'.setCell (p:=⟨R,1,none⟩) (.inl (by simp)) (.bool true))
       have hoz:=hide (ho9.mod ((Mod.refl [R] w9).setCell (p:=⟨R,1,none⟩) (.inl (by simp)) (.bool true)) (by
        rintro g o hA hmem
        obtain⟨s,hr,_⟩:=h9.rd
        have a2:=ho9.ne hr (by decide) g o hA
        simp at hmem
        contradiction))
       clear h9 m9 m9' ho9
       go_wp2_with fail
       refine bodyPost_ret (results_none rfl _ _ _) rfl ?_
       exact⟨rfl,RPostR.of HE.out hz.out hoz.out (show(g.list++ [(lo,high)]).length≤64 by have:=hlen2.out;omega) mz.out⟩
      ·have HE:=hide (hres.out.trans ((congrArg (fun k=>rrng k high g (some l)) (show mo - j=(mo - (j+1))+1 by omega)).trans (rrng_step e1 e2 hx (by omega))))
       rw[hlo]at HE
       have hg2i:¬(lo:Int) < (x2:Int)+2:=by omega
       obtain⟨d,hd⟩:∃d,lo - x2=d:=⟨_,rfl⟩
       obtain⟨h2,hh2⟩:∃h2,lo - x2 - 2=h2:=⟨_,rfl⟩
       have hd':(lo:Int) - x2=d:=by omega
       have hh2':(d:Int) - 2=h2:=by omega
       rw[hh2]at HE
       have hh2b:h2 < 4611686018427387904:=by omega
       have hd2:2≤d:=by omega
       have hd3:x2≤lo:=by omega
       clear hres hx e1 e2 hlo hg2 hd hh2
       go_wp2_with (at_builtin;refine Lib.wpList_append_run _ rfl (.tmp 46) (.tmp 50) 34 34 rfl (.slice A g.list.length c) (.slice (some ⟨w5.heap.size,0,none⟩) 1 1) rfl rfl _ w7 HRun.out ?_)
       refine(H8.out.num E2.out).mono ?_
       rintro e w9 ⟨rfl,h9,m9⟩
       have ho9:=hide (ho8.out.mod m9 (by
        rintro g o hA hmem
        obtain⟨s,hr,_⟩:=H8.out.rd
        have a1:=ho8.out.ne H8.out.blk (by decide) g o hA
        have a2:=ho8.out.ne hr (by decide) g o hA
        simp at hmem
        rcases hmem with h | h <;> contradiction))
       have m9':=hide (m8.out.trans m9 (by simp))
       have H9:=hide h9
       clear q7 p7 hl7 pp7 p57 h9 m9
       go_wp2_with fail
       go_roundw
       case rel=>exact⟨j+1,h2,{ g with list:=g.list++ [(lo,high)] },s2,A',c',by omega,by go_num,by go_num,hh2b,H9,ho9,hlen2,HE,m9'⟩
       case measure=>simp[intOf];omega
theorem ROwn.modRF {w w':World} {B R F:Nat} {A:Option Addr} {n c c':Nat} {l:List (Nat×Nat)} {f:Fr} {st:RS} {A':Option Addr} (h:ROwn w B A c l) (hf:RF w R F A' n c' f st) (m:Mod [R,F] w w'):ROwn w' B A c l:=
 h.mod m (by
  rintro g o hA hmem
  obtain⟨s,hr,_⟩:=hf.rd
  have a1:=h.ne hf.blk (by decide) g o hA
  have a2:=h.ne hr (by decide) g o hA
  simp at hmem
  rcases hmem with h | h <;> contradiction)
theorem racked2 (f:Fr) (st:RS) (h:f.kind≠3):racked f st=rranges f st:=if_neg h
theorem racked3 {f:Fr} {st:RS} {g:Fr} {s0 s1 s2 s3:RS} {x1 x2 x3:Nat} (h:f.kind=3) (e0:rranges f st=(g,s0)) (e1:rnum s0=(x1,s1)) (e2:rnum s1=(x2,s2)) (e3:rnum s2=(x3,s3)):
  racked f st=({ g with b:=x1,c:=x2,more:=⟨(be x3 8).toArray⟩ },s3):=by
 unfold racked
 rw[if_pos h,e0]
 simp only[e1,e2,e3]
theorem racked_any (w:World) (R F:Nat) (f:Fr) (st:RS) (hf0:f.list= []) (h:RF w R F none 0 0 f st):
  Calls Tryz.prog 133 #[.pointer (some ⟨R,0,none⟩),.pointer (some ⟨F,0,none⟩)] w fun e w'=>e=.returned (.tuple #[])∧RPostR w R F (racked f st) w':=by
 have HR:=hide (rranges_any w R F f st hf0 h)
 have hkk:=rranges_kind f st
 obtain⟨g,s0,e0⟩:∃g s0,rranges f st=(g,s0):=⟨_,_,rfl⟩
 rw[e0]at HR hkk
 simp only at hkk
 have HK:=hide hkk
 by_cases h3:f.kind=3
 ·obtain⟨x1,s1,e1,b1⟩:=numE s0
  obtain⟨x2,s2,e2,b2⟩:=numE s1
  obtain⟨x3,s3,e3,b3⟩:=numE s2
  have HV:=hide (racked3 h3 e0 e1 e2 e3)
  have E1:=hide e1
  have E2:=hide e2
  have E3:=hide e3
  have hk3:((g.kind:Int)==3)=true:=by rw[hkk,h3];rfl
  have HB8:=hide (fun w=>fbytes8_any w x3 (by omega))
  clear h hkk e0 e1 e2 e3 h3 hf0
  go_enter Tryz.func133,Tryz.ntmps133
  go_wp2_with fail
  refine HR.out.mono ?_
  rintro e w1 ⟨rfl,A,c,h1,o1,hl1,m1⟩
  simp only at h1 o1 hl1
  have H1:=hide h1
  have O1:=hide o1
  have HL1:=hide hl1
  have M1:=hide m1
  obtain⟨p0,p1,p2,p3,p4,p5,p6,p7⟩:=fcells h1.blk
  have hlF:=h1.blk.lt
  have q0:=h1.blk.frozen 0
  have q1:=h1.blk.frozen 1
  have q2:=h1.blk.frozen 2
  have q3:=h1.blk.frozen 3
  have q4:=h1.blk.frozen 4
  have q5:=h1.blk.frozen 5
  have q6:=h1.blk.frozen 6
  clear h1 o1 hl1 m1
  go_wp2_with fail
  clear p0 p1 p2 p3 p4 p5 p6 p7 hlF q0 q1 q2 q3 q4 q5 q6
  refine(H1.out.num E1.out).mono ?_
  rintro e w2 ⟨rfl,h2,m2⟩
  have o2:=hide (O1.out.modRF H1.out m2)
  have H2:=hide h2
  have M2:=hide (M1.out.trans m2 (by simp))
  clear h2 m2 H1 O1 M1
  go_wp2_with fail
  refine(H2.out.num E2.out).mono ?_
  rintro e w3 ⟨rfl,h3,m3⟩
  obtain⟨p0,p1,p2,p3,p4,p5,p6,p7⟩:=fcells h3.blk
  have hlF:=h3.blk.lt
  have q0:=h3.blk.frozen 0
  have q1:=h3.blk.frozen 1
  have q2:=h3.blk.frozen 2
  have q3:=h3.blk.frozen 3
  have q4:=h3.blk.frozen 4
  have q5:=h3.blk.frozen 5
  have q6:=h3.blk.frozen 6
  have O3:=o2.out.modRF H2.out m3
  have h4:=(h3.set_b x1).set_c x2
  have m34:Mod [R,F] w3 ((w3.setCell ⟨F,2,none⟩ (.int .u64 x1)).setCell ⟨F,3,none⟩ (.int .u64 x2)):=((Mod.refl [R,F] w3).setCell (p:=⟨F,2,none⟩) (.inl (by simp)) (.int .u64 x1)).setCell (p:=⟨F,3,none⟩) (.inl (by simp)) (.int .u64 x2)
  have O4:=hide (O3.modRF h3 m34)
  have M4:=hide ((M2.out.trans m3 (by simp)).trans m34 (by simp))
  have H4:=hide h4
  clear h3 m3 o2 O3 h4 m34 H2 M2
  go_wp2_with fail
  clear p0 p1 p2 p3 p4 p5 p6 p7 hlF q0 q1 q2 q3 q4 q5 q6
  refine(H4.out.num E3.out).mono ?_
  rintro e w5 ⟨rfl,h5,m5⟩
  have O5:=hide (O4.out.modRF H4.out m5)
  have H5:=hide h5
  have M5:=hide (M4.out.trans m5 (by simp))
  clear h5 m5 H4 O4 M4
  go_wp2_with fail
  refine(HB8.out w5).mono ?_
  rintro e w6 ⟨rfl,m6⟩
  have h6:RF w6 R F A g.list.length c { g with b:=x1,c:=x2 } s3:=⟨m6.blk H5.out.blk (by simp),H5.out.rd.mod m6 (by simp)⟩
  have O6:=O5.out.mod m6 (by simp)
  have m6':=M5.out.trans m6 (by simp)
  unfold str
  obtain⟨V,hV⟩:∃V:ByteArray,(⟨(be x3 8).toArray⟩:ByteArray)=V:=⟨_,rfl⟩
  rw[hV]at HV ⊢
  obtain⟨p0,p1,p2,p3,p4,p5,p6,p7⟩:=fcells h6.blk
  have hlF:=h6.blk.lt
  have q0:=h6.blk.frozen 0
  have q1:=h6.blk.frozen 1
  have q2:=h6.blk.frozen 2
  have q3:=h6.blk.frozen 3
  have q4:=h6.blk.frozen 4
  have q5:=h6.blk.frozen 5
  have q6:=h6.blk.frozen 6
  have h7:=hide (h6.set_more V)
  have m67:Mod [R,F] w6 (w6.setCell ⟨F,6,none⟩ (.string V)):=(Mod.refl [R,F] w6).setCell (p:=⟨F,6,none⟩) (.inl (by simp)) (.string V)
  have O7:=hide (O6.modRF h6 m67)
  have M7:=hide (m6'.trans m67 (by simp))
  clear h6 m6 O6 m6' m67 hV H5 O5 M5
  go_wp2_with fail
  go_end0
  exact⟨rfl,RPostR.of HV.out h7.out O7.out HL1.out M7.out⟩
 ·have HV:=hide ((racked2 f st h3).trans e0)
  have hk3:((g.kind:Int)==3)=false:=by rw[hkk];simp;omega
  clear h hkk e0 h3 hf0
  go_enter Tryz.func133,Tryz.ntmps133
  go_wp2_with fail
  refine HR.out.mono ?_
  rintro e w1 ⟨rfl,A,c,h1,o1,hl1,m1⟩
  simp only at h1 o1 hl1
  have H1:=hide h1
  have O1:=hide o1
  have HL1:=hide hl1
  have M1:=hide m1
  obtain⟨p0,p1,p2,p3,p4,p5,p6,p7⟩:=fcells h1.blk
  have hlF:=h1.blk.lt
  have q0:=h1.blk.frozen 0
  have q1:=h1.blk.frozen 1
  have q2:=h1.blk.frozen 2
  have q3:=h1.blk.frozen 3
  have q4:=h1.blk.frozen 4
  have q5:=h1.blk.frozen 5
  have q6:=h1.blk.frozen 6
  clear h1 o1 hl1 m1
  go_wp2_with fail
  go_end0
  exact⟨rfl,RPostR.of HV.out H1.out O1.out HL1.out M1.out⟩
def dz (l:List UInt8):List UInt8:=l.dropWhile (· ==0)
theorem dz_zeros (l:List UInt8):dz l=l.drop (zeros l):=by
 unfold dz zeros
 induction l with
 | nil=>rfl
 | cons c t ih=>
  by_cases h:(c==0)=true
  ·simp only[List.dropWhile_cons,List.takeWhile_cons,h,if_true,List.length_cons,List.drop_succ_cons,ih]
  ·simp only[List.dropWhile_cons,List.takeWhile_cons,h];rfl
theorem dz_len (l:List UInt8):(dz l).length=l.length - zeros l:=by rw[dz_zeros,List.length_drop]
theorem zeros_le (l:List UInt8):zeros l≤l.length:=(List.takeWhile_prefix _).length_le
def strLen (v:Value):Nat:=match v with | .string s=>s.size | _=>0
theorem trimb_any (w:World) (x y:ByteArray) (hy:y.data.toList=dz x.data.toList):
  Calls Tryz.prog 169 #[.string x,.int .u8 0] w fun e w'=>e=.returned (.string y)∧w'=w:=by
 have HY:=hide hy
 clear hy
 go_enter Tryz.func169,Tryz.ntmps169
 go_wp2_with fail
 go_loopw [0] (fun sv wr=>∃s:ByteArray,sv=.string s∧Hid (y.data.toList=dz s.data.toList)∧wr=w) (fun sv _=>strLen sv)
 case atStart=>exact⟨x,rfl,HY,rfl⟩
 case round=>
  obtain⟨s,rfl,hs,rfl⟩:=hrel
  have hl:=bytes_len s
  cases hc:s.data.toList with
  | nil=>
   rw[hc]at hl
   simp only[List.length_nil]at hl
   have h0:¬(0:Int) < s.size:=by omega
   have h1:y=s:=bytes_eq (by rw[hs.out,hc];rfl)
   have H1:=hide h1
   clear hs h1 hc hl
   go_wp2_with fail
   go_ret
   exact⟨by rw[H1.out];rfl,rfl⟩
  | cons c t=>
   rw[hc]at hl
   simp only[List.length_cons]at hl
   have h0:(0:Int) < s.size:=by omega
   have h00:0 < s.size:=by omega
   have hg:s[0]'(by omega)=c:=getElem_list s 0 (by omega) c (by rw[hc];rfl)
   have hcl:=c.toNat_lt
   by_cases hz:c=0
   ·have hcz:((c.toNat:Int)==0)=true:=by subst hz;rfl
    have e1:(s.extract 1 s.size).data.toList=t:=by
     rw[Lib.extract_data,hc,List.take_of_length_le (by simp;omega)];rfl
    have e2:(s.extract 1 s.size).size=t.length:=by rw[←bytes_len,e1]
    have HN:Hid (y.data.toList=dz (s.extract 1 s.size).data.toList):=hide (by
     rw[hs.out,e1,hc,hz];rfl)
    have E2:=hide e2
    have HLn:=hide hl
    clear hs e1 e2 hz hc hl
    go_wp2_with fail
    go_roundw
    case rel=>exact⟨_,rfl,HN,trivial⟩
    case measure=>
     have:=E2.out
     have:=HLn.out
     simp only[strLen]
     omega
   ·have hcz:((c.toNat:Int)==0)=false:=by
     have:c.toNat≠0:=fun h=>hz (by apply UInt8.toNat.inj;simpa using h)
     simp;omega
    have h1:y=s:=bytes_eq (by
     rw[hs.out,hc]
     exact List.dropWhile_cons_of_neg (by simpa using hz))
    have H1:=hide h1
    clear hs h1 hc hz hl
    go_wp2_with fail
    go_ret
    exact⟨by rw[H1.out];rfl,rfl⟩
theorem trim_any (w:World) (x y:ByteArray) (hy:y.data.toList=dz x.data.toList):
  Calls Tryz.prog 132 #[.string x,.string ⟨#[0]⟩] w fun e w'=>e=.returned (.string y)∧w'=w:=by
 have HT:=hide (trimb_any w x y hy)
 have hes:=empty_size x
 by_cases h0:x.size=0
 ·rw[decide_eq_true h0]at hes
  have h1:y=x:=bytes_eq (by rw[hy,show x=⟨#[]⟩from size0 h0];rfl)
  have H1:=hide h1
  clear h1 hy h0
  go_enter Tryz.func132,Tryz.ntmps132
  go_wp2_with fail
  go_ret
  exact⟨by rw[H1.out];rfl,rfl⟩
 ·rw[decide_eq_false h0]at hes
  clear hy h0
  go_enter Tryz.func132,Tryz.ntmps132
  go_wp2_with fail
  refine HT.out.mono ?_
  rintro e w1 ⟨rfl,rfl⟩
  go_wp2_with fail
  go_ret
  exact⟨rfl,rfl⟩
def FPost (w:World) (R:Nat) (x:Fr×RS) (e:Ending) (w':World):Prop:=∃A c,e=.returned (fval A x.1.list.length c x.1)∧RdO w' R x.2∧ROwn w' w.heap.size A c x.1.list∧x.1.list.length≤64∧Mod [R] w w'
abbrev fsets (X:World) (RB:Nat) (V:Array Value):World:=(List.range 8).foldl (fun w i=>w.setCell ⟨RB,i,none⟩ (V.getD i undef)) X
theorem fsets_mod (X:World) (RB:Nat) (V:Array Value):Mod [RB] X (fsets X RB V):=(Mod.refl [RB] X).sets (g:=RB) (.inl (by simp)) (fun i=>V.getD i undef) (List.range 8)
theorem fsets_blk {X:World} {RB:Nat} {t:TypeId} {cs:Array Value} (V:Array Value) (h:Blk X RB t cs) (hc:cs.size=8) (hV:V.size=8):Blk (fsets X RB V) RB t V:=by
 have hb2:=h.sets (fun i=>V.getD i undef) (List.range 8)
 rw[sets_eq _ _ 8 hc hV]at hb2
 exact hb2
theorem fpost_mk {w X:World} {R F RB:Nat} {A:Option Addr} {c:Nat} {g:Fr} {st st':RS} (h:RF X R F A g.list.length c g st') (hrb:Blk X RB 36 (fcs none 0 0 fr0)) (m:Mod [R] w X) (hRB:w.heap.size≤RB) (hRR:R < RB)
  (o:ROwn X w.heap.size A c g.list) (hl:g.list.length≤64) (e:rframe st=(g,st')):
  Blk (fsets X RB (fcs A g.list.length c g)) RB 36 (fcs A g.list.length c g)∧FPost w R (rframe st) (.returned (.agg (fcs A g.list.length c g))) (fsets X RB (fcs A g.list.length c g)):=by
 have hs:=fsets_mod X RB (fcs A g.list.length c g)
 have hb:=fsets_blk (fcs A g.list.length c g) hrb rfl rfl
 obtain⟨Y,hY⟩:∃Y,fsets X RB (fcs A g.list.length c g)=Y:=⟨_,rfl⟩
 rw[hY]at hs hb ⊢
 refine⟨hb,?_⟩
 rw[e]
 have hne:R∉ [RB]:=by
  intro h;simp at h;omega
 refine⟨A,c,rfl,h.rd.mod hs hne,o.mod hs (fun g' o' hA hm=> ?_),hl,m.trans hs (fun x hx=>by simp at hx;right;omega)⟩
 have:=o.ne hrb (by decide) g' o' hA
 simp at hm
 contradiction
theorem FPost.alloc {w w':World} {R:Nat} {x:Fr×RS} {e:Ending} (h:FPost w R x e w') (o:Obj):FPost w R x e (w'.alloc o):=by
 obtain⟨A,c,h1,h2,h3,h4,h5⟩:=h
 exact⟨A,c,h1,h2.mod ((Mod.refl [] _).alloc o) (by simp),h3.mod ((Mod.refl [] _).alloc o) (by simp),h4,h5.alloc o⟩
theorem fpost_al {w X:World} {R F RB:Nat} {A:Option Addr} {c:Nat} {g:Fr} {st st':RS} (o':Obj) (h:RF X R F A g.list.length c g st') (hrb:Blk X RB 36 (fcs none 0 0 fr0)) (m:Mod [R] w X) (hRB:w.heap.size≤RB) (hRR:R < RB)
  (o:ROwn X w.heap.size A c g.list) (hl:g.list.length≤64) (e:rframe st=(g,st')):
  Blk ((fsets X RB (fcs A g.list.length c g)).alloc o') RB 36 (fcs A g.list.length c g)∧FPost w R (rframe st) (.returned (.agg (fcs A g.list.length c g))) ((fsets X RB (fcs A g.list.length c g)).alloc o'):=by
 obtain⟨h1,h2⟩:=fpost_mk h hrb m hRB hRR o hl e
 exact⟨h1.alloc _,h2.alloc _⟩
theorem rnum_none' {st:RS} {x:Nat} (e:rnum st=(x,none)):x=0:=by
 cases st with
 | none=>cases e;rfl
 | some l=>
  cases h:pnum l with
  | none=>rw[rnum_fail h]at e;cases e;rfl
  | some y=>rw[rnum_some h]at e;cases e
theorem rframe_bad {st:RS} {x:Nat} (e:rnum st=(x,none)):rframe st=({ fr0 with kind:=x },none):=by
 unfold rframe
 simp only[e,if_true]
theorem rframe_sh {st:RS} {x:Nat} {l:List UInt8} {sh:Shp} (e:rnum st=(x,some l)) (hs:fshape x=some sh):rframe st=rshaped sh { fr0 with kind:=x } (some l):=by
 unfold rframe
 simp only[e]
 rw[if_neg (by simp),hs]
theorem rframe_own {st:RS} {x:Nat} {l:List UInt8} (e:rnum st=(x,some l)) (hs:fshape x=none):rframe st=if x=0 then rpad { fr0 with kind:=x } (some l)else if x=2∨x=3 then racked { fr0 with kind:=x } (some l)else if 8≤x∧x < 16 then rstream { fr0 with kind:=x } (some l)else if x=24 then rcid { fr0 with kind:=x } (some l)else({ fr0 with kind:=x },none):=by
 unfold rframe
 simp only[e]
 rw[if_neg (by simp),hs]
theorem rshaped_list (sh:Shp) (f:Fr) (st:RS):(rshaped sh f st).1.list=f.list:=by
 unfold rshaped rshN
 split <;> rfl
theorem rcid_list (f:Fr) (st:RS):(rcid f st).1.list=f.list:=by
 unfold rcid
 simp only
 split <;> rfl
theorem rframe_any (w:World) (R:Nat) (st:RS) (h:RdO w R st):
  Calls Tryz.prog 103 #[.pointer (some ⟨R,0,none⟩)] w (FPost w R (rframe st)):=by
 obtain⟨x1,s1,e1,b1⟩:=numE st
 have HN:=hide (fun w h=>rnum_any w R st h)
 have H:=hide h
 have hRl:=h.lt
 rw[e1]at HN
 have hsh:=fun w=>shapes_any w x1
 obtain⟨sh,hshe⟩:∃sh,shS x1=sh:=⟨_,rfl⟩
 rw[hshe]at hsh
 have HShe:=hide hshe
 obtain⟨n,t,x⟩:=sh
 obtain⟨is,his⟩:∃is,(fshape x1).isSome=is:=⟨_,rfl⟩
 rw[his]at hsh
 unfold shval at hsh
 have HSh:=hide hsh
 have E1:=hide e1
 have HIs:=hide his
 clear h e1 hsh hshe his
 go_enter Tryz.func103,Tryz.ntmps103
 go_wp2_with fail
 have hrb0:Blk (w.alloc (.cells (fcs none 0 0 fr0) 36)) w.heap.size 36 (fcs none 0 0 fr0):=Blk.new _ _ _
 refine(HN.out _ (H.out.mod ((Mod.refl [] w).alloc _) (by simp))).mono ?_
 rintro e w1 ⟨rfl,h1,m1⟩
 go_wp2_with fail
 refine(HSh.out _).mono ?_
 rintro e w2 ⟨rfl,m2⟩
 have m1':Mod [R] w w1:=((Mod.refl [R] w).alloc (.cells (fcs none 0 0 fr0) 36)).trans m1 (by simp)
 have hrb1:Blk w1 w.heap.size 36 (fcs none 0 0 fr0):=m1.blk hrb0 (by simp;omega)
 have hw1:w.heap.size < w1.heap.size:=hrb1.lt
 have hf1:RF (w1.alloc (.cells (fcs none 0 0 { fr0 with kind:=x1 }) 36)) R w1.heap.size none 0 0 { fr0 with kind:=x1 } s1:=⟨Blk.new _ _ _,h1.mod ((Mod.refl [] _).alloc _) (by simp)⟩
 have m2r:Mod [R] w w2:=(m1'.alloc (.cells (fcs none 0 0 { fr0 with kind:=x1 }) 36)).trans m2 (by simp)
 have hf2:RF w2 R w1.heap.size none 0 0 { fr0 with kind:=x1 } s1:=⟨m2.blk hf1.blk (by simp),hf1.rd.mod m2 (by simp)⟩
 have hrb2:Blk w2 w.heap.size 36 (fcs none 0 0 fr0):=m2.blk (hrb1.alloc _) (by simp)
 obtain⟨RB,hRBe⟩:∃RB,w.heap.size=RB:=⟨_,rfl⟩
 obtain⟨F,hFe⟩:∃F,w1.heap.size=F:=⟨_,rfl⟩
 have hRB:w.heap.size≤RB:=by omega
 have hRR:R < RB:=by omega
 have hRF:RB < F:=by omega
 have HRB:=hide hRB
 have HRR:=hide hRR
 have hne:RB≠F:=by omega
 have hne':F≠RB:=by omega
 have hneR:F≠R:=by omega
 have hneR':R≠F:=by omega
 rw[hRBe]at hrb2
 rw[hFe]at hf2
 simp only[hRBe,hFe]
 have HF2:=hide hf2
 have HRB2:=hide hrb2
 have M2:=hide m2r
 clear hrb0 h1 m1 m1' hrb1 hw1 hf1 m2 m2r hf2 hrb2 H HN HSh hRl hRB hRBe hFe
 obtain⟨o3,ho3⟩:∃o:Obj,.cells #[.int .i64 (n:Nat),.bool t,.int .i64 (x:Nat)] 109=o:=⟨_,rfl⟩
 have HF3:=hide (HF2.out.alloc o3)
 have HRB3:=hide (HRB2.out.alloc o3)
 have M3:=hide (M2.out.alloc o3)
 rw[←ho3]at HF3 HRB3 M3
 have hsb3:Blk (w2.alloc (.cells #[.int .i64 (n:Nat),.bool t,.int .i64 (x:Nat)] 109)) w2.heap.size 109 #[.int .i64 (n:Nat),.bool t,.int .i64 (x:Nat)]:=Blk.new _ _ _
 have O3:=hide (ROwn.nil (w2.alloc (.cells #[.int .i64 (n:Nat),.bool t,.int .i64 (x:Nat)] 109)) w.heap.size)
 have L0:Hid (([]:List (Nat×Nat)).length≤64):=hide (by simp)
 clear ho3
 obtain⟨sr,p0,p1,u0,u1,hlR,hsr,hsl⟩:=HF2.out.cells
 have HSl:=hide hsl
 clear hsl
 cases s1 with
 | none=>
  have hx0:=rnum_none' E1.out
  obtain rfl:is=false:=by rw[←HIs.out,hx0];rfl
  clear hx0
  simp only[Option.isNone_none]at p1
  have HP:=hide (fpost_al (g:= { fr0 with kind:=x1 }) (.cells #[.int .i64 (n:Nat),.bool t,.int .i64 (x:Nat)] 109) HF2.out HRB2.out M2.out HRB.out HRR.out (ROwn.nil _ _) L0.out (rframe_bad E1.out))
  have r0:w2.frozen? ⟨RB,0,none⟩=false:=HRB2.out.frozen 0
  have z0:w2.cell? ⟨RB,0,none⟩=some (.int .u64 0):=HRB2.out.cell 0
  have r1:w2.frozen? ⟨RB,1,none⟩=false:=HRB2.out.frozen 1
  have z1:w2.cell? ⟨RB,1,none⟩=some (.int .u64 0):=HRB2.out.cell 1
  have r2:w2.frozen? ⟨RB,2,none⟩=false:=HRB2.out.frozen 2
  have z2:w2.cell? ⟨RB,2,none⟩=some (.int .u64 0):=HRB2.out.cell 2
  have r3:w2.frozen? ⟨RB,3,none⟩=false:=HRB2.out.frozen 3
  have z3:w2.cell? ⟨RB,3,none⟩=some (.int .u64 0):=HRB2.out.cell 3
  have r4:w2.frozen? ⟨RB,4,none⟩=false:=HRB2.out.frozen 4
  have z4:w2.cell? ⟨RB,4,none⟩=some (.bool false):=HRB2.out.cell 4
  have r5:w2.frozen? ⟨RB,5,none⟩=false:=HRB2.out.frozen 5
  have z5:w2.cell? ⟨RB,5,none⟩=some (.string ⟨#[]⟩):=HRB2.out.cell 5
  have r6:w2.frozen? ⟨RB,6,none⟩=false:=HRB2.out.frozen 6
  have z6:w2.cell? ⟨RB,6,none⟩=some (.string ⟨#[]⟩):=HRB2.out.cell 6
  have r7:w2.frozen? ⟨RB,7,none⟩=false:=HRB2.out.frozen 7
  have z7:w2.cell? ⟨RB,7,none⟩=some (.slice none 0 0):=HRB2.out.cell 7
  have hlRB:=HRB2.out.lt
  have c0:w2.cell? ⟨F,0,none⟩=some (.int .u64 (x1:Nat)):=HF2.out.blk.cell 0
  have c1:w2.cell? ⟨F,1,none⟩=some (.int .u64 0):=HF2.out.blk.cell 1
  have c2:w2.cell? ⟨F,2,none⟩=some (.int .u64 0):=HF2.out.blk.cell 2
  have c3:w2.cell? ⟨F,3,none⟩=some (.int .u64 0):=HF2.out.blk.cell 3
  have c4:w2.cell? ⟨F,4,none⟩=some (.bool false):=HF2.out.blk.cell 4
  have c5:w2.cell? ⟨F,5,none⟩=some (.string ⟨#[]⟩):=HF2.out.blk.cell 5
  have c6:w2.cell? ⟨F,6,none⟩=some (.string ⟨#[]⟩):=HF2.out.blk.cell 6
  have c7:w2.cell? ⟨F,7,none⟩=some (.slice none 0 0):=HF2.out.blk.cell 7
  have hlF:=HF2.out.blk.lt
  clear HF2 HRB2 M2 HF3 HRB3 M3 hsb3 O3
  go_wp2_with fail
  refine bodyPost_ret (results_cell_row rfl _ _ RB 36 (fcs none 0 0 { fr0 with kind:=x1 }) (0,0) _ rfl ?_ Tryz.underlying36 rfl (by kernel_rfl)) rfl ?_
  ·exact HP.out.1
  exact HP.out.2
 | some l=>
  simp only[Option.isNone_some]at p1
  cases hsp:fshape x1 with
  | some sh=>
   obtain rfl:is=true:=by rw[←HIs.out,hsp];rfl
   have hsh:sh=⟨n,t,x⟩:=by rw[←HShe.out];unfold shS;rw[hsp];rfl
   subst hsh
   have hn3:=(fshape_lt hsp).2.1
   have hx8:x≤8:=fshape_x hsp
   have HE:=hide (rframe_sh E1.out hsp)
   have HSA:=hide (fun w h=>rshaped_any w R F ⟨n,t,x⟩ hn3 hx8 none 0 0 { fr0 with kind:=x1 } (some l) h)
   have hll:=rshaped_list ⟨n,t,x⟩ { fr0 with kind:=x1 } (some l)
   obtain⟨g,s5,hg5⟩:∃g s5,rshaped ⟨n,t,x⟩ { fr0 with kind:=x1 } (some l)=(g,s5):=⟨_,_,rfl⟩
   rw[hg5]at HE HSA hll
   simp only at HSA hll
   have hgl:g.list.length=0:=by rw[hll];rfl
   have HGL:=hide hgl
   have HLL:=hide hll
   unfold shval at HSA
   have HSB3:=hide hsb3
   have c0:w2.cell? ⟨F,0,none⟩=some (.int .u64 (x1:Nat)):=HF2.out.blk.cell 0
   have c1:w2.cell? ⟨F,1,none⟩=some (.int .u64 0):=HF2.out.blk.cell 1
   have c2:w2.cell? ⟨F,2,none⟩=some (.int .u64 0):=HF2.out.blk.cell 2
   have c3:w2.cell? ⟨F,3,none⟩=some (.int .u64 0):=HF2.out.blk.cell 3
   have c4:w2.cell? ⟨F,4,none⟩=some (.bool false):=HF2.out.blk.cell 4
   have c5:w2.cell? ⟨F,5,none⟩=some (.string ⟨#[]⟩):=HF2.out.blk.cell 5
   have c6:w2.cell? ⟨F,6,none⟩=some (.string ⟨#[]⟩):=HF2.out.blk.cell 6
   have c7:w2.cell? ⟨F,7,none⟩=some (.slice none 0 0):=HF2.out.blk.cell 7
   have hlF:=HF2.out.blk.lt
   clear hsp hn3 hx8 hg5 hll hgl hsb3 O3
   go_wp2_with fail
   refine(HSA.out _ HF3.out).mono ?_
   rintro e w4 ⟨rfl,h4,m4⟩
   have h4':RF w4 R F none g.list.length 0 g s5:=by rw[HGL.out];exact h4
   have H4:=hide h4'
   have HRB4:=hide (m4.blk HRB3.out (by simp;omega))
   have M4:=hide (M3.out.trans m4 (by simp;have:=HRB.out;omega))
   have O4:Hid (ROwn w4 w.heap.size none 0 g.list):=hide (by rw[HLL.out];exact ROwn.nil _ _)
   have L4:Hid (g.list.length≤64):=hide (by rw[HGL.out];omega)
   clear c0 c1 c2 c3 c4 c5 c6 c7 hlF h4 h4' m4 HF3 HRB3 M3 HF2 HRB2 M2 p0 p1 u0 u1 hlR
   have c0:w4.cell? ⟨F,0,none⟩=some (.int .u64 (g.kind:Nat)):=H4.out.blk.cell 0
   have c1:w4.cell? ⟨F,1,none⟩=some (.int .u64 (g.a:Nat)):=H4.out.blk.cell 1
   have c2:w4.cell? ⟨F,2,none⟩=some (.int .u64 (g.b:Nat)):=H4.out.blk.cell 2
   have c3:w4.cell? ⟨F,3,none⟩=some (.int .u64 (g.c:Nat)):=H4.out.blk.cell 3
   have c4:w4.cell? ⟨F,4,none⟩=some (.bool g.fin):=H4.out.blk.cell 4
   have c5:w4.cell? ⟨F,5,none⟩=some (.string g.data):=H4.out.blk.cell 5
   have c6:w4.cell? ⟨F,6,none⟩=some (.string g.more):=H4.out.blk.cell 6
   have c7:w4.cell? ⟨F,7,none⟩=some (.slice none g.list.length 0):=H4.out.blk.cell 7
   have hlF:=H4.out.blk.lt
   have HP:=hide (fpost_mk H4.out HRB4.out M4.out HRB.out HRR.out O4.out L4.out HE.out)
   have r0:w4.frozen? ⟨RB,0,none⟩=false:=HRB4.out.frozen 0
   have z0:w4.cell? ⟨RB,0,none⟩=some (.int .u64 0):=HRB4.out.cell 0
   have r1:w4.frozen? ⟨RB,1,none⟩=false:=HRB4.out.frozen 1
   have z1:w4.cell? ⟨RB,1,none⟩=some (.int .u64 0):=HRB4.out.cell 1
   have r2:w4.frozen? ⟨RB,2,none⟩=false:=HRB4.out.frozen 2
   have z2:w4.cell? ⟨RB,2,none⟩=some (.int .u64 0):=HRB4.out.cell 2
   have r3:w4.frozen? ⟨RB,3,none⟩=false:=HRB4.out.frozen 3
   have z3:w4.cell? ⟨RB,3,none⟩=some (.int .u64 0):=HRB4.out.cell 3
   have r4:w4.frozen? ⟨RB,4,none⟩=false:=HRB4.out.frozen 4
   have z4:w4.cell? ⟨RB,4,none⟩=some (.bool false):=HRB4.out.cell 4
   have r5:w4.frozen? ⟨RB,5,none⟩=false:=HRB4.out.frozen 5
   have z5:w4.cell? ⟨RB,5,none⟩=some (.string ⟨#[]⟩):=HRB4.out.cell 5
   have r6:w4.frozen? ⟨RB,6,none⟩=false:=HRB4.out.frozen 6
   have z6:w4.cell? ⟨RB,6,none⟩=some (.string ⟨#[]⟩):=HRB4.out.cell 6
   have r7:w4.frozen? ⟨RB,7,none⟩=false:=HRB4.out.frozen 7
   have z7:w4.cell? ⟨RB,7,none⟩=some (.slice none 0 0):=HRB4.out.cell 7
   have hlRB:=HRB4.out.lt
   go_wp2_with fail
   refine bodyPost_ret (results_cell_row rfl _ _ RB 36 (fcs none (g:Fr).list.length 0 g) (0,0) _ rfl ?_ Tryz.underlying36 rfl (by kernel_rfl)) rfl ?_
   ·exact HP.out.1
   exact HP.out.2
  | none=>
   obtain rfl:is=false:=by rw[←HIs.out,hsp];rfl
   have HE0:=hide (rframe_own E1.out hsp)
   clear hsp
   have O2:Hid (ROwn w2 w.heap.size none 0 []):=hide (ROwn.nil _ _)
   by_cases hk0:x1=0
   ·have HE1:=hide (HE0.out.trans (if_pos hk0))
    obtain⟨z,hz⟩:∃z,zeros l=z:=⟨_,rfl⟩
    obtain⟨m,hm⟩:∃m,min z 16383=m:=⟨_,rfl⟩
    have hm16:m≤16383:=by omega
    have hm16i:(m:Int)≤16383:=by omega
    obtain⟨m1,hm1⟩:∃m1,m+1=m1:=⟨_,rfl⟩
    have hE:rframe st=({ fr0 with kind:=x1,a:=m1 },some (l.drop m)):=by
     rw[HE1.out];unfold rpad;simp only[hz,hm,hm1]
    have HE:=hide hE
    have hsl:=HSl.out l rfl
    have hzl:z≤sr.size:=by rw[←hz,←hsl,←bytes_len];exact zeros_le _
    obtain⟨y,hy⟩:∃y:ByteArray,y.data.toList=dz sr.data.toList:=⟨⟨(dz sr.data.toList).toArray⟩,by simp⟩
    have hys:y.size=sr.size - z:=by rw[←bytes_len,hy,dz_len,bytes_len,hsl,hz]
    have HT:=hide (fun w=>trim_any w sr y hy)
    have hd:(sr.size:Int) - y.size=(z:Nat):=by omega
    have hmi:min (z:Int) 16383=(m:Nat):=by omega
    have hm1i:(m:Int)+1=(m1:Nat):=by omega
    have hm1b:m1≤16384:=by omega
    have hml:m≤sr.size:=by omega
    have hmli:(m:Int)≤sr.size:=by omega
    have x2:(sr.extract m sr.size).data.toList=l.drop m:=by
     rw[Lib.extract_data,hsl,List.take_of_length_le (by rw[List.length_drop,←hsl,bytes_len];omega)]
    have x3:(sr.extract m sr.size).size≤1000000:=by rw[←bytes_len,x2,List.length_drop,←hsl,bytes_len];omega
    have hfz:=HF2.out.set_a m1
    have hf4:RF ((w2.setCell ⟨F,1,none⟩ (.int .u64 (m1:Nat))).setCell ⟨R,0,none⟩ (.string (sr.extract m sr.size))) R F none 0 0 { fr0 with kind:=x1,a:=m1 } (some (l.drop m)):=by
     refine⟨hfz.blk.far hfz.ne _,?_⟩
     obtain⟨s0,g1,g2,g3⟩:=hfz.rd
     exact RdO.mk' (g1.set_ 0 _) x3 rfl (fun k hk=>by cases hk;exact x2)
    have hrb4:=(HRB2.out.far (p:=⟨F,1,none⟩) (show RB≠F by omega) (.int .u64 (m1:Nat))).far (p:=⟨R,0,none⟩) (show RB≠R by omega) (.string (sr.extract m sr.size))
    have hm4:Mod [R] w ((w2.setCell ⟨F,1,none⟩ (.int .u64 (m1:Nat))).setCell ⟨R,0,none⟩ (.string (sr.extract m sr.size))):=(M2.out.setCell (p:=⟨F,1,none⟩) (.inr (show w.heap.size≤F by have:=HRB.out;omega)) _).setCell (p:=⟨R,0,none⟩) (.inl (by simp)) _
    have HP:=hide (fpost_al (g:= { fr0 with kind:=x1,a:=m1 }) (.cells #[.int .i64 (n:Nat),.bool t,.int .i64 (x:Nat)] 109) hf4 hrb4 hm4 HRB.out HRR.out (ROwn.nil _ _) L0.out hE)
    have hkz:((x1:Int)==0)=true:=by simp;omega
    have f1:=HF2.out.blk.frozen 1
    have r0:w2.frozen? ⟨RB,0,none⟩=false:=HRB2.out.frozen 0
    have z0:w2.cell? ⟨RB,0,none⟩=some (.int .u64 0):=HRB2.out.cell 0
    have r1:w2.frozen? ⟨RB,1,none⟩=false:=HRB2.out.frozen 1
    have z1:w2.cell? ⟨RB,1,none⟩=some (.int .u64 0):=HRB2.out.cell 1
    have r2:w2.frozen? ⟨RB,2,none⟩=false:=HRB2.out.frozen 2
    have z2:w2.cell? ⟨RB,2,none⟩=some (.int .u64 0):=HRB2.out.cell 2
    have r3:w2.frozen? ⟨RB,3,none⟩=false:=HRB2.out.frozen 3
    have z3:w2.cell? ⟨RB,3,none⟩=some (.int .u64 0):=HRB2.out.cell 3
    have r4:w2.frozen? ⟨RB,4,none⟩=false:=HRB2.out.frozen 4
    have z4:w2.cell? ⟨RB,4,none⟩=some (.bool false):=HRB2.out.cell 4
    have r5:w2.frozen? ⟨RB,5,none⟩=false:=HRB2.out.frozen 5
    have z5:w2.cell? ⟨RB,5,none⟩=some (.string ⟨#[]⟩):=HRB2.out.cell 5
    have r6:w2.frozen? ⟨RB,6,none⟩=false:=HRB2.out.frozen 6
    have z6:w2.cell? ⟨RB,6,none⟩=some (.string ⟨#[]⟩):=HRB2.out.cell 6
    have r7:w2.frozen? ⟨RB,7,none⟩=false:=HRB2.out.frozen 7
    have z7:w2.cell? ⟨RB,7,none⟩=some (.slice none 0 0):=HRB2.out.cell 7
    have hlRB:=HRB2.out.lt
    have c0:w2.cell? ⟨F,0,none⟩=some (.int .u64 (x1:Nat)):=HF2.out.blk.cell 0
    have c1:w2.cell? ⟨F,1,none⟩=some (.int .u64 0):=HF2.out.blk.cell 1
    have c2:w2.cell? ⟨F,2,none⟩=some (.int .u64 0):=HF2.out.blk.cell 2
    have c3:w2.cell? ⟨F,3,none⟩=some (.int .u64 0):=HF2.out.blk.cell 3
    have c4:w2.cell? ⟨F,4,none⟩=some (.bool false):=HF2.out.blk.cell 4
    have c5:w2.cell? ⟨F,5,none⟩=some (.string ⟨#[]⟩):=HF2.out.blk.cell 5
    have c6:w2.cell? ⟨F,6,none⟩=some (.string ⟨#[]⟩):=HF2.out.blk.cell 6
    have c7:w2.cell? ⟨F,7,none⟩=some (.slice none 0 0):=HF2.out.blk.cell 7
    have hlF:=HF2.out.blk.lt
    clear HF2 HRB2 M2 HF3 HRB3 M3 hsb3 O3 O2 hE hz hm hsl hzl hy hys x2 x3 hfz hf4 hrb4 hm4 HE0 HE1 hk0 hm1
    go_wp2_with fail
    refine(HT.out _).mono ?_
    rintro e w4 ⟨rfl,rfl⟩
    go_wp2_with fail
    refine bodyPost_ret (results_cell_row rfl _ _ RB 36 (fcs none 0 0 { fr0 with kind:=x1,a:=m1 }) (0,0) _ rfl ?_ Tryz.underlying36 rfl (by kernel_rfl)) rfl ?_
    ·exact HP.out.1
    exact HP.out.2
   ·have hk0b:((x1:Int)==0)=false:=by simp;omega
    have HE1:=hide (HE0.out.trans (if_neg hk0))
    clear hk0 HE0 p0 u0
    have c0:w2.cell? ⟨F,0,none⟩=some (.int .u64 (x1:Nat)):=HF2.out.blk.cell 0
    have c1:w2.cell? ⟨F,1,none⟩=some (.int .u64 0):=HF2.out.blk.cell 1
    have c2:w2.cell? ⟨F,2,none⟩=some (.int .u64 0):=HF2.out.blk.cell 2
    have c3:w2.cell? ⟨F,3,none⟩=some (.int .u64 0):=HF2.out.blk.cell 3
    have c4:w2.cell? ⟨F,4,none⟩=some (.bool false):=HF2.out.blk.cell 4
    have c5:w2.cell? ⟨F,5,none⟩=some (.string ⟨#[]⟩):=HF2.out.blk.cell 5
    have c6:w2.cell? ⟨F,6,none⟩=some (.string ⟨#[]⟩):=HF2.out.blk.cell 6
    have c7:w2.cell? ⟨F,7,none⟩=some (.slice none 0 0):=HF2.out.blk.cell 7
    have hlF:=HF2.out.blk.lt
    by_cases hk2:x1=2∨x1=3
    ·clear HF2 HRB2 M2
     have HE:=hide (HE1.out.trans (if_pos hk2))
     have HC:=hide (fun w h=>racked_any w R F { fr0 with kind:=x1 } (some l) rfl h)
     obtain⟨g,s5,hg5⟩:∃g s5,racked { fr0 with kind:=x1 } (some l)=(g,s5):=⟨_,_,rfl⟩
     rw[hg5]at HE HC
     clear hg5
     have FIN:∀w4,RPostR (w2.alloc (.cells #[.int .i64 (n:Nat),.bool t,.int .i64 (x:Nat)] 109)) R F (g,s5) w4→∃A c,RF w4 R F A g.list.length c g s5∧Blk w4 RB 36 (fcs none 0 0 fr0)∧Blk (fsets w4 RB (fcs A g.list.length c g)) RB 36 (fcs A g.list.length c g)∧FPost w R (rframe st) (.returned (.agg (fcs A g.list.length c g))) (fsets w4 RB (fcs A g.list.length c g)):=by
      rintro w4 ⟨A,c,h4,o4,l4,m4⟩
      have hrb4:=m4.blk HRB3.out (by simp;omega)
      have o4':=o4.base (B':=w.heap.size) (Nat.le_trans M3.out.size (Nat.le_refl _))
      have:=fpost_mk h4 hrb4 (M3.out.trans m4 (by simp;have:=HRB.out;omega)) HRB.out HRR.out o4' l4 HE.out
      exact⟨A,c,h4,hrb4,this.1,this.2⟩
     have HFin:=hide FIN
     clear FIN M3 HRB3 O3 HE
     rcases hk2 with rfl | rfl
     ·go_wp2_with fail
      refine(HC.out _ HF3.out).mono ?_
      rintro e w4 ⟨rfl,hpo⟩
      obtain⟨A,c,h4,hb4,hp1,hp2⟩:=HFin.out w4 hpo
      have HP:=hide (And.intro hp1 hp2)
      have H4:=hide h4
      have HB4:=hide hb4
      clear hpo h4 hb4 hp1 hp2 c0 c1 c2 c3 c4 c5 c6 c7 hlF p1 u1 hlR
      have r0:w4.frozen? ⟨RB,0,none⟩=false:=HB4.out.frozen 0
      have z0:w4.cell? ⟨RB,0,none⟩=some (.int .u64 0):=HB4.out.cell 0
      have r1:w4.frozen? ⟨RB,1,none⟩=false:=HB4.out.frozen 1
      have z1:w4.cell? ⟨RB,1,none⟩=some (.int .u64 0):=HB4.out.cell 1
      have r2:w4.frozen? ⟨RB,2,none⟩=false:=HB4.out.frozen 2
      have z2:w4.cell? ⟨RB,2,none⟩=some (.int .u64 0):=HB4.out.cell 2
      have r3:w4.frozen? ⟨RB,3,none⟩=false:=HB4.out.frozen 3
      have z3:w4.cell? ⟨RB,3,none⟩=some (.int .u64 0):=HB4.out.cell 3
      have r4:w4.frozen? ⟨RB,4,none⟩=false:=HB4.out.frozen 4
      have z4:w4.cell? ⟨RB,4,none⟩=some (.bool false):=HB4.out.cell 4
      have r5:w4.frozen? ⟨RB,5,none⟩=false:=HB4.out.frozen 5
      have z5:w4.cell? ⟨RB,5,none⟩=some (.string ⟨#[]⟩):=HB4.out.cell 5
      have r6:w4.frozen? ⟨RB,6,none⟩=false:=HB4.out.frozen 6
      have z6:w4.cell? ⟨RB,6,none⟩=some (.string ⟨#[]⟩):=HB4.out.cell 6
      have r7:w4.frozen? ⟨RB,7,none⟩=false:=HB4.out.frozen 7
      have z7:w4.cell? ⟨RB,7,none⟩=some (.slice none 0 0):=HB4.out.cell 7
      have hlRB:=HB4.out.lt
      have c0:w4.cell? ⟨F,0,none⟩=some (.int .u64 (g.kind:Nat)):=H4.out.blk.cell 0
      have c1:w4.cell? ⟨F,1,none⟩=some (.int .u64 (g.a:Nat)):=H4.out.blk.cell 1
      have c2:w4.cell? ⟨F,2,none⟩=some (.int .u64 (g.b:Nat)):=H4.out.blk.cell 2
      have c3:w4.cell? ⟨F,3,none⟩=some (.int .u64 (g.c:Nat)):=H4.out.blk.cell 3
      have c4:w4.cell? ⟨F,4,none⟩=some (.bool g.fin):=H4.out.blk.cell 4
      have c5:w4.cell? ⟨F,5,none⟩=some (.string g.data):=H4.out.blk.cell 5
      have c6:w4.cell? ⟨F,6,none⟩=some (.string g.more):=H4.out.blk.cell 6
      have c7:w4.cell? ⟨F,7,none⟩=some (.slice A g.list.length c):=H4.out.blk.cell 7
      have hlF:=H4.out.blk.lt
      go_wp2_with fail
      refine bodyPost_ret (results_cell_row rfl _ _ RB 36 (fcs A g.list.length c g) (0,0) _ rfl ?_ Tryz.underlying36 rfl (by kernel_rfl)) rfl ?_
      ·exact HP.out.1
      exact HP.out.2
     ·go_wp2_with fail
      refine(HC.out _ HF3.out).mono ?_
      rintro e w4 ⟨rfl,hpo⟩
      obtain⟨A,c,h4,hb4,hp1,hp2⟩:=HFin.out w4 hpo
      have HP:=hide (And.intro hp1 hp2)
      have H4:=hide h4
      have HB4:=hide hb4
      clear hpo h4 hb4 hp1 hp2 c0 c1 c2 c3 c4 c5 c6 c7 hlF p1 u1 hlR
      have r0:w4.frozen? ⟨RB,0,none⟩=false:=HB4.out.frozen 0
      have z0:w4.cell? ⟨RB,0,none⟩=some (.int .u64 0):=HB4.out.cell 0
      have r1:w4.frozen? ⟨RB,1,none⟩=false:=HB4.out.frozen 1
      have z1:w4.cell? ⟨RB,1,none⟩=some (.int .u64 0):=HB4.out.cell 1
      have r2:w4.frozen? ⟨RB,2,none⟩=false:=HB4.out.frozen 2
      have z2:w4.cell? ⟨RB,2,none⟩=some (.int .u64 0):=HB4.out.cell 2
      have r3:w4.frozen? ⟨RB,3,none⟩=false:=HB4.out.frozen 3
      have z3:w4.cell? ⟨RB,3,none⟩=some (.int .u64 0):=HB4.out.cell 3
      have r4:w4.frozen? ⟨RB,4,none⟩=false:=HB4.out.frozen 4
      have z4:w4.cell? ⟨RB,4,none⟩=some (.bool false):=HB4.out.cell 4
      have r5:w4.frozen? ⟨RB,5,none⟩=false:=HB4.out.frozen 5
      have z5:w4.cell? ⟨RB,5,none⟩=some (.string ⟨#[]⟩):=HB4.out.cell 5
      have r6:w4.frozen? ⟨RB,6,none⟩=false:=HB4.out.frozen 6
      have z6:w4.cell? ⟨RB,6,none⟩=some (.string ⟨#[]⟩):=HB4.out.cell 6
      have r7:w4.frozen? ⟨RB,7,none⟩=false:=HB4.out.frozen 7
      have z7:w4.cell? ⟨RB,7,none⟩=some (.slice none 0 0):=HB4.out.cell 7
      have hlRB:=HB4.out.lt
      have c0:w4.cell? ⟨F,0,none⟩=some (.int .u64 (g.kind:Nat)):=H4.out.blk.cell 0
      have c1:w4.cell? ⟨F,1,none⟩=some (.int .u64 (g.a:Nat)):=H4.out.blk.cell 1
      have c2:w4.cell? ⟨F,2,none⟩=some (.int .u64 (g.b:Nat)):=H4.out.blk.cell 2
      have c3:w4.cell? ⟨F,3,none⟩=some (.int .u64 (g.c:Nat)):=H4.out.blk.cell 3
      have c4:w4.cell? ⟨F,4,none⟩=some (.bool g.fin):=H4.out.blk.cell 4
      have c5:w4.cell? ⟨F,5,none⟩=some (.string g.data):=H4.out.blk.cell 5
      have c6:w4.cell? ⟨F,6,none⟩=some (.string g.more):=H4.out.blk.cell 6
      have c7:w4.cell? ⟨F,7,none⟩=some (.slice A g.list.length c):=H4.out.blk.cell 7
      have hlF:=H4.out.blk.lt
      go_wp2_with fail
      refine bodyPost_ret (results_cell_row rfl _ _ RB 36 (fcs A g.list.length c g) (0,0) _ rfl ?_ Tryz.underlying36 rfl (by kernel_rfl)) rfl ?_
      ·exact HP.out.1
      exact HP.out.2
    ·have HE2:=hide (HE1.out.trans (if_neg hk2))
     have hk2b:((x1:Int)==2)=false:=by simp;omega
     have hk3b:((x1:Int)==3)=false:=by simp;omega
     have FINX:∀(g:Fr) (s5:RS),rframe st=(g,s5)→g.list= []→∀w4,RF w4 R F none 0 0 g s5→Mod [R,F] (w2.alloc (.cells #[.int .i64 (n:Nat),.bool t,.int .i64 (x:Nat)] 109)) w4→Blk w4 RB 36 (fcs none 0 0 fr0)∧Blk (fsets w4 RB (fcs none 0 0 g)) RB 36 (fcs none 0 0 g)∧FPost w R (rframe st) (.returned (.agg (fcs none 0 0 g))) (fsets w4 RB (fcs none 0 0 g)):=by
      intro g s5 hE hl w4 h4 m4
      have hl0:g.list.length=0:=by rw[hl];rfl
      have hrb4:=m4.blk HRB3.out (by simp;omega)
      have:=fpost_mk (A:=none) (c:=0) (by rw[hl0];exact h4) hrb4 (M3.out.trans m4 (by simp;have:=HRB.out;omega)) HRB.out HRR.out (by rw[hl];exact ROwn.nil _ _) (by omega) hE
      rw[hl0]at this
      exact⟨hrb4,this.1,this.2⟩
     have HFinX:=hide FINX
     clear FINX hk2 HE1
     by_cases hk8:8≤x1∧x1 < 16
     ·clear HF2 HRB2 M2
      have HE:=hide (HE2.out.trans (if_pos hk8))
      have HC:=hide (fun w h=>rstream_any w R F none 0 0 { fr0 with kind:=x1 } (some l) h hk8.1 hk8.2)
      have hgl:(rstream { fr0 with kind:=x1 } (some l)).1.list= []:=rfl
      obtain⟨g,s5,hg5⟩:∃g s5,rstream { fr0 with kind:=x1 } (some l)=(g,s5):=⟨_,_,rfl⟩
      rw[hg5]at HE HC hgl
      have HGl:=hide hgl
      have hk8i:(8:Int)≤x1:=by omega
      have hk16i:(x1:Int) < 16:=by omega
      clear hg5 hgl hk8 HE2 M3 HRB3 O3
      go_wp2_with fail
      refine(HC.out _ HF3.out).mono ?_
      rintro e w4 ⟨rfl,h4,m4⟩
      obtain⟨hb4,hp1,hp2⟩:=HFinX.out _ _ HE.out HGl.out w4 h4 m4
      have HP:=hide (And.intro hp1 hp2)
      have H4:=hide h4
      have HB4:=hide hb4
      clear h4 m4 hb4 hp1 hp2 c0 c1 c2 c3 c4 c5 c6 c7 hlF p1 u1 hlR
      have r0:w4.frozen? ⟨RB,0,none⟩=false:=HB4.out.frozen 0
      have z0:w4.cell? ⟨RB,0,none⟩=some (.int .u64 0):=HB4.out.cell 0
      have r1:w4.frozen? ⟨RB,1,none⟩=false:=HB4.out.frozen 1
      have z1:w4.cell? ⟨RB,1,none⟩=some (.int .u64 0):=HB4.out.cell 1
      have r2:w4.frozen? ⟨RB,2,none⟩=false:=HB4.out.frozen 2
      have z2:w4.cell? ⟨RB,2,none⟩=some (.int .u64 0):=HB4.out.cell 2
      have r3:w4.frozen? ⟨RB,3,none⟩=false:=HB4.out.frozen 3
      have z3:w4.cell? ⟨RB,3,none⟩=some (.int .u64 0):=HB4.out.cell 3
      have r4:w4.frozen? ⟨RB,4,none⟩=false:=HB4.out.frozen 4
      have z4:w4.cell? ⟨RB,4,none⟩=some (.bool false):=HB4.out.cell 4
      have r5:w4.frozen? ⟨RB,5,none⟩=false:=HB4.out.frozen 5
      have z5:w4.cell? ⟨RB,5,none⟩=some (.string ⟨#[]⟩):=HB4.out.cell 5
      have r6:w4.frozen? ⟨RB,6,none⟩=false:=HB4.out.frozen 6
      have z6:w4.cell? ⟨RB,6,none⟩=some (.string ⟨#[]⟩):=HB4.out.cell 6
      have r7:w4.frozen? ⟨RB,7,none⟩=false:=HB4.out.frozen 7
      have z7:w4.cell? ⟨RB,7,none⟩=some (.slice none 0 0):=HB4.out.cell 7
      have hlRB:=HB4.out.lt
      have c0:w4.cell? ⟨F,0,none⟩=some (.int .u64 (g.kind:Nat)):=H4.out.blk.cell 0
      have c1:w4.cell? ⟨F,1,none⟩=some (.int .u64 (g.a:Nat)):=H4.out.blk.cell 1
      have c2:w4.cell? ⟨F,2,none⟩=some (.int .u64 (g.b:Nat)):=H4.out.blk.cell 2
      have c3:w4.cell? ⟨F,3,none⟩=some (.int .u64 (g.c:Nat)):=H4.out.blk.cell 3
      have c4:w4.cell? ⟨F,4,none⟩=some (.bool g.fin):=H4.out.blk.cell 4
      have c5:w4.cell? ⟨F,5,none⟩=some (.string g.data):=H4.out.blk.cell 5
      have c6:w4.cell? ⟨F,6,none⟩=some (.string g.more):=H4.out.blk.cell 6
      have c7:w4.cell? ⟨F,7,none⟩=some (.slice none 0 0):=H4.out.blk.cell 7
      have hlF:=H4.out.blk.lt
      go_wp2_with fail
      refine bodyPost_ret (results_cell_row rfl _ _ RB 36 (fcs none 0 0 g) (0,0) _ rfl ?_ Tryz.underlying36 rfl (by kernel_rfl)) rfl ?_
      ·exact HP.out.1
      exact HP.out.2
     ·have HE3:=hide (HE2.out.trans (if_neg hk8))
      by_cases hk24:x1=24
      ·clear HF2 HRB2 M2
       have HE:=hide (HE3.out.trans (if_pos hk24))
       have HC:=hide (fun w h=>rcid_any w R F none 0 0 { fr0 with kind:=x1 } (some l) h)
       have hgl:(rcid { fr0 with kind:=x1 } (some l)).1.list= []:=rcid_list _ _
       obtain⟨g,s5,hg5⟩:∃g s5,rcid { fr0 with kind:=x1 } (some l)=(g,s5):=⟨_,_,rfl⟩
       rw[hg5]at HE HC hgl
       have HGl:=hide hgl
       have hk24b:((x1:Int)==24)=true:=by simp;omega
       have hk16i:¬(x1:Int) < 16:=by omega
       have hk8i:(8:Int)≤x1:=by omega
       clear hg5 hgl hk8 hk24 HE2 HE3 M3 HRB3 O3
       go_wp2_with fail
       refine(HC.out _ HF3.out).mono ?_
       rintro e w4 ⟨rfl,h4,m4⟩
       obtain⟨hb4,hp1,hp2⟩:=HFinX.out _ _ HE.out HGl.out w4 h4 m4
       have HP:=hide (And.intro hp1 hp2)
       have H4:=hide h4
       have HB4:=hide hb4
       clear h4 m4 hb4 hp1 hp2 c0 c1 c2 c3 c4 c5 c6 c7 hlF p1 u1 hlR
       have r0:w4.frozen? ⟨RB,0,none⟩=false:=HB4.out.frozen 0
       have z0:w4.cell? ⟨RB,0,none⟩=some (.int .u64 0):=HB4.out.cell 0
       have r1:w4.frozen? ⟨RB,1,none⟩=false:=HB4.out.frozen 1
       have z1:w4.cell? ⟨RB,1,none⟩=some (.int .u64 0):=HB4.out.cell 1
       have r2:w4.frozen? ⟨RB,2,none⟩=false:=HB4.out.frozen 2
       have z2:w4.cell? ⟨RB,2,none⟩=some (.int .u64 0):=HB4.out.cell 2
       have r3:w4.frozen? ⟨RB,3,none⟩=false:=HB4.out.frozen 3
       have z3:w4.cell? ⟨RB,3,none⟩=some (.int .u64 0):=HB4.out.cell 3
       have r4:w4.frozen? ⟨RB,4,none⟩=false:=HB4.out.frozen 4
       have z4:w4.cell? ⟨RB,4,none⟩=some (.bool false):=HB4.out.cell 4
       have r5:w4.frozen? ⟨RB,5,none⟩=false:=HB4.out.frozen 5
       have z5:w4.cell? ⟨RB,5,none⟩=some (.string ⟨#[]⟩):=HB4.out.cell 5
       have r6:w4.frozen? ⟨RB,6,none⟩=false:=HB4.out.frozen 6
       have z6:w4.cell? ⟨RB,6,none⟩=some (.string ⟨#[]⟩):=HB4.out.cell 6
       have r7:w4.frozen? ⟨RB,7,none⟩=false:=HB4.out.frozen 7
       have z7:w4.cell? ⟨RB,7,none⟩=some (.slice none 0 0):=HB4.out.cell 7
       have hlRB:=HB4.out.lt
       have c0:w4.cell? ⟨F,0,none⟩=some (.int .u64 (g.kind:Nat)):=H4.out.blk.cell 0
       have c1:w4.cell? ⟨F,1,none⟩=some (.int .u64 (g.a:Nat)):=H4.out.blk.cell 1
       have c2:w4.cell? ⟨F,2,none⟩=some (.int .u64 (g.b:Nat)):=H4.out.blk.cell 2
       have c3:w4.cell? ⟨F,3,none⟩=some (.int .u64 (g.c:Nat)):=H4.out.blk.cell 3
       have c4:w4.cell? ⟨F,4,none⟩=some (.bool g.fin):=H4.out.blk.cell 4
       have c5:w4.cell? ⟨F,5,none⟩=some (.string g.data):=H4.out.blk.cell 5
       have c6:w4.cell? ⟨F,6,none⟩=some (.string g.more):=H4.out.blk.cell 6
       have c7:w4.cell? ⟨F,7,none⟩=some (.slice none 0 0):=H4.out.blk.cell 7
       have hlF:=H4.out.blk.lt
       go_wp2_with fail
       refine bodyPost_ret (results_cell_row rfl _ _ RB 36 (fcs none 0 0 g) (0,0) _ rfl ?_ Tryz.underlying36 rfl (by kernel_rfl)) rfl ?_
       ·exact HP.out.1
       exact HP.out.2
      ·have HE:=hide (HE3.out.trans (if_neg hk24))
       have hk24b:((x1:Int)==24)=false:=by simp;omega
       have hk8i:(decide ((8:Int)≤x1) && decide ((x1:Int) < 16))=false:=by
        rw[Bool.and_eq_false_iff]
        by_cases h:8≤x1
        ·right;exact decide_eq_false (by omega)
        ·left;exact decide_eq_false (by omega)
       have hf4:=HF2.out.set_bad true none (.inl ⟨rfl,rfl⟩)
       have hrb5:=HRB2.out.far (p:=⟨R,1,none⟩) (show RB≠R by omega) (.bool true)
       have h5:Mod [R] w (w2.setCell ⟨R,1,none⟩ (.bool true)):=M2.out.setCell (p:=⟨R,1,none⟩) (.inl (by simp)) _
       have HP:=hide (fpost_al (g:= { fr0 with kind:=x1 }) (.cells #[.int .i64 (n:Nat),.bool t,.int .i64 (x:Nat)] 109) hf4 hrb5 h5 HRB.out HRR.out (ROwn.nil _ _) L0.out HE.out)
       have r0:w2.frozen? ⟨RB,0,none⟩=false:=HRB2.out.frozen 0
       have z0:w2.cell? ⟨RB,0,none⟩=some (.int .u64 0):=HRB2.out.cell 0
       have r1:w2.frozen? ⟨RB,1,none⟩=false:=HRB2.out.frozen 1
       have z1:w2.cell? ⟨RB,1,none⟩=some (.int .u64 0):=HRB2.out.cell 1
       have r2:w2.frozen? ⟨RB,2,none⟩=false:=HRB2.out.frozen 2
       have z2:w2.cell? ⟨RB,2,none⟩=some (.int .u64 0):=HRB2.out.cell 2
       have r3:w2.frozen? ⟨RB,3,none⟩=false:=HRB2.out.frozen 3
       have z3:w2.cell? ⟨RB,3,none⟩=some (.int .u64 0):=HRB2.out.cell 3
       have r4:w2.frozen? ⟨RB,4,none⟩=false:=HRB2.out.frozen 4
       have z4:w2.cell? ⟨RB,4,none⟩=some (.bool false):=HRB2.out.cell 4
       have r5:w2.frozen? ⟨RB,5,none⟩=false:=HRB2.out.frozen 5
       have z5:w2.cell? ⟨RB,5,none⟩=some (.string ⟨#[]⟩):=HRB2.out.cell 5
       have r6:w2.frozen? ⟨RB,6,none⟩=false:=HRB2.out.frozen 6
       have z6:w2.cell? ⟨RB,6,none⟩=some (.string ⟨#[]⟩):=HRB2.out.cell 6
       have r7:w2.frozen? ⟨RB,7,none⟩=false:=HRB2.out.frozen 7
       have z7:w2.cell? ⟨RB,7,none⟩=some (.slice none 0 0):=HRB2.out.cell 7
       have hlRB:=HRB2.out.lt
       clear HF2 HRB2 M2 hk8i
       by_cases h8:8≤x1
       ·have a8:(8:Int)≤x1:=by omega
        have a16:¬(x1:Int) < 16:=by omega
        clear HE HE2 HE3 hk24 hk8 HF3 HRB3 M3 hsb3 O3 hf4 h5 hrb5 O2
        go_wp2_with fail
        refine bodyPost_ret (results_cell_row rfl _ _ RB 36 (fcs none 0 0 { fr0 with kind:=x1 }) (0,0) _ rfl ?_ Tryz.underlying36 rfl (by kernel_rfl)) rfl ?_
        ·exact HP.out.1
        exact HP.out.2
       ·have a8:¬(8:Int)≤x1:=by omega
        clear HE HE2 HE3 hk24 hk8 HF3 HRB3 M3 hsb3 O3 hf4 h5 hrb5 O2
        go_wp2_with fail
        refine bodyPost_ret (results_cell_row rfl _ _ RB 36 (fcs none 0 0 { fr0 with kind:=x1 }) (0,0) _ rfl ?_ Tryz.underlying36 rfl (by kernel_rfl)) rfl ?_
        ·exact HP.out.1
        exact HP.out.2
theorem results_cell_tmp2_row {P:Program} {fn:Func} {p u v:Tmp} {ty:TypeId} (h:fn.results= #[.cell p ty,.tmp u,.tmp v]) (tmps:Array Value) (w:World) (g:Nat) (t:TypeId) (cs:Array Value) (d:TypeDesc)
  (hp:tmps.getD p undef=.pointer (some ⟨g,0,none⟩)) (hg:Blk w g t cs) (hu:P.underlying ty=some d) (hd:(match d with | .struct _ | .array _ _=>true | _=>false)=true) (hi:(P.info? ty).map (·.size)=some cs.size):
  (results fn tmps).run P w=.ok (.tuple #[.agg cs,tmps.getD u undef,tmps.getD v undef]) w:=by
 have e:(results fn tmps).run P w=((asAddr (tmps.getD p undef)).run P w).andThen fun a w₁=>((loadVar ty a).run P w₁).andThen fun x w₂=> .ok (.tuple #[x,tmps.getD u undef,tmps.getD v undef]) w₂:=by
  simp only[results,h]
  simp[Sem.run_bind,Result.andThen]
 rw[e,hp]
 show((loadVar ty ⟨g,0,none⟩).run P w).andThen _=_
 rw[run_loadVar_row w g t ty cs (0,0) d hg hu hd hi]
 rfl
def frd (s:List UInt8):Fr×List UInt8×Int:=if s= []then(fr0,[],10)else match fread s with | some x=>(x.1,x.2,0) | none=>(fr0,[],2)
theorem frd_bad {s:List UInt8} {g:Fr} (h:rframe (some s)=(g,none)) (hs:s≠ []):frd s=(fr0,[],2):=by
 have h1:=rframe_some s
 unfold frd fread
 rw[if_neg hs]
 cases hp:pframe s with
 | none=>rfl
 | some x=>
  rw[hp]at h1
  simp only at h1
  rw[h]at h1
  cases h1
theorem frd_not {s r:List UInt8} {g:Fr} (h:rframe (some s)=(g,some r)) (hs:s≠ []) (hm:fmay g=false):frd s=(fr0,[],2):=by
 have h1:=rframe_some s
 unfold frd fread
 rw[if_neg hs]
 cases hp:pframe s with
 | none=>rfl
 | some x=>
  rw[hp]at h1
  simp only at h1
  rw[h]at h1
  cases h1
  simp[hm]
theorem frd_yes {s r:List UInt8} {g:Fr} (h:rframe (some s)=(g,some r)) (hs:s≠ []) (hm:fmay g=true):frd s=(g,r,0):=by
 have h1:=rframe_some s
 unfold frd fread
 rw[if_neg hs]
 cases hp:pframe s with
 | none=>rw[hp]at h1;simp only at h1;rw[h]at h1;cases h1
 | some x=>
  rw[hp]at h1
  simp only at h1
  rw[h]at h1
  cases h1
  simp[hm]
def RdPost (w:World) (x:Fr×List UInt8×Int) (e:Ending) (w':World):Prop:=
 ∃A c,e=.returned (.tuple #[fval A x.1.list.length c x.1,str x.2.1,.int .i64 x.2.2])∧ROwn w' w.heap.size A c x.1.list∧x.1.list.length≤64∧Mod [] w w'
theorem RdPost.zero {w w':World} {x:Fr×List UInt8×Int} {er:Int} (e:x=(fr0,[],er)) (m:Mod [] w w'):RdPost w x (.returned (.tuple #[.agg (fcs none 0 0 fr0),.string ⟨#[]⟩,.int .i64 er])) w':=by
 subst e
 exact⟨none,0,rfl,ROwn.nil _ _,by simp[fr0],m⟩
theorem read_any (w:World) (x:ByteArray) (hx:x.size≤1000000):
  Calls Tryz.prog 70 #[.string x] w (RdPost w (frd x.data.toList)):=by
 have hes:=empty_size x
 by_cases h0:x.size=0
 ·rw[decide_eq_true h0]at hes
  have hE:frd x.data.toList=(fr0,[],10):=by rw[size0 h0];rfl
  have HE:=hide hE
  have HP:=hide (fsets_blk (fcs none 0 0 fr0) (Blk.new w 36 (fcs none 0 0 fr0)) rfl rfl)
  clear h0 hE
  go_enter Tryz.func70,Tryz.ntmps70
  go_wp2_with fail
  refine bodyPost_ret (results_cell_tmp2_row rfl _ _ w.heap.size 36 (fcs none 0 0 fr0) _ rfl ?_ Tryz.underlying36 rfl (by kernel_rfl)) rfl ?_
  ·exact Blk.new _ _ _
  exact RdPost.zero HE.out ((Mod.refl _ _).alloc _)
 ·rw[decide_eq_false h0]at hes
  have hne:x.data.toList≠ []:=by
   intro h
   have:=bytes_len x
   rw[h]at this
   simp at this;omega
  have HNe:=hide hne
  have hrb0:Blk ((w.alloc (.cells (fcs none 0 0 fr0) 36)).alloc (.cells #[.string x,.bool false] 123)) w.heap.size 36 (fcs none 0 0 fr0):=(Blk.new _ _ _).alloc _
  have hrd0:RdO ((w.alloc (.cells (fcs none 0 0 fr0) 36)).alloc (.cells #[.string x,.bool false] 123)) (w.heap.size+1) (some x.data.toList):=by
   have:=Blk.new (w.alloc (.cells (fcs none 0 0 fr0) 36)) 123 #[.string x,.bool false]
   rw[World.size_alloc]at this
   exact⟨x,this,hx,fun l h=>by cases h;rfl⟩
  have hm0:Mod [] w ((w.alloc (.cells (fcs none 0 0 fr0) 36)).alloc (.cells #[.string x,.bool false] 123)):=((Mod.refl _ _).alloc _).alloc _
  have HRb0:=hide hrb0
  have HRd0:=hide hrd0
  have HM0:=hide hm0
  have HF:=hide (rframe_any _ _ _ hrd0)
  clear hne hrb0 hrd0 hm0 h0
  go_enter Tryz.func70,Tryz.ntmps70
  go_wp2_with fail
  refine HF.out.mono ?_
  rintro e w2 ⟨A,c,rfl,h2,o2,l2,m2⟩
  obtain⟨g,s2,hg⟩:∃g s2,rframe (some x.data.toList)=(g,s2):=⟨_,_,rfl⟩
  rw[hg]at h2 o2 l2
  rw[hg]
  simp only at h2 o2 l2 ⊢
  have hrb2:=m2.blk HRb0.out (by simp)
  have m2':Mod [] w w2:=HM0.out.trans m2 (by simp)
  have ho2:ROwn w2 w.heap.size A c g.list:=o2.base HM0.out.size
  obtain⟨RB,hRBe⟩:∃RB,w.heap.size=RB:=⟨_,rfl⟩
  have hRB:w.heap.size≤RB:=by omega
  rw[hRBe]at hrb2 h2
  simp only[hRBe]
  have H2:=hide h2
  have HRB2:=hide hrb2
  have M2:=hide m2'
  have HO2:=hide ho2
  have HL2:=hide l2
  have HG:=hide hg
  have HRB:=hide hRB
  clear h2 o2 l2 m2 hg hrb2 m2' ho2 hRBe hRB HF HRb0 HRd0 HM0
  obtain⟨sr,p0,p1,u0,u1,hlR,hsr,hsl⟩:∃s:ByteArray,w2.cell? ⟨RB+1,0,none⟩=some (.string s)∧w2.cell? ⟨RB+1,1,none⟩=some (.bool s2.isNone)∧w2.frozen? ⟨RB+1,0,none⟩=false∧w2.frozen? ⟨RB+1,1,none⟩=false∧RB+1 < w2.heap.size∧s.size≤1000000∧∀l,s2=some l→s.data.toList=l:=by
   obtain⟨s,h1,h2,h3⟩:=H2.out
   exact⟨s,h1.cell 0,h1.cell 1,h1.frozen 0,h1.frozen 1,h1.lt,h2,h3⟩
  have HSl:=hide hsl
  clear hsl
  unfold fval fcs
  have hfb:Blk (w2.alloc (.cells (fcs A g.list.length c g) 36)) w2.heap.size 36 (fcs A g.list.length c g):=Blk.new _ _ _
  have hm3:Mod [] w (w2.alloc (.cells (fcs A g.list.length c g) 36)):=M2.out.alloc _
  have ho3:ROwn (w2.alloc (.cells (fcs A g.list.length c g) 36)) w.heap.size A c g.list:=HO2.out.mod ((Mod.refl [] w2).alloc _) (by simp)
  have HM3:=hide hm3
  have HO3:=hide ho3
  have HFB:=hide hfb
  clear hm3 ho3 hfb
  have r0:w2.frozen? ⟨RB,0,none⟩=false:=HRB2.out.frozen 0
  have z0:w2.cell? ⟨RB,0,none⟩=some (.int .u64 0):=HRB2.out.cell 0
  have r1:w2.frozen? ⟨RB,1,none⟩=false:=HRB2.out.frozen 1
  have z1:w2.cell? ⟨RB,1,none⟩=some (.int .u64 0):=HRB2.out.cell 1
  have r2:w2.frozen? ⟨RB,2,none⟩=false:=HRB2.out.frozen 2
  have z2:w2.cell? ⟨RB,2,none⟩=some (.int .u64 0):=HRB2.out.cell 2
  have r3:w2.frozen? ⟨RB,3,none⟩=false:=HRB2.out.frozen 3
  have z3:w2.cell? ⟨RB,3,none⟩=some (.int .u64 0):=HRB2.out.cell 3
  have r4:w2.frozen? ⟨RB,4,none⟩=false:=HRB2.out.frozen 4
  have z4:w2.cell? ⟨RB,4,none⟩=some (.bool false):=HRB2.out.cell 4
  have r5:w2.frozen? ⟨RB,5,none⟩=false:=HRB2.out.frozen 5
  have z5:w2.cell? ⟨RB,5,none⟩=some (.string ⟨#[]⟩):=HRB2.out.cell 5
  have r6:w2.frozen? ⟨RB,6,none⟩=false:=HRB2.out.frozen 6
  have z6:w2.cell? ⟨RB,6,none⟩=some (.string ⟨#[]⟩):=HRB2.out.cell 6
  have r7:w2.frozen? ⟨RB,7,none⟩=false:=HRB2.out.frozen 7
  have z7:w2.cell? ⟨RB,7,none⟩=some (.slice none 0 0):=HRB2.out.cell 7
  have hlRB:=HRB2.out.lt
  cases s2 with
  | none=>
   simp only[Option.isNone_none]at p1
   have HE:=hide (frd_bad HG.out HNe.out)
   have hb:=(fsets_blk (fcs none 0 0 fr0) HRB2.out rfl rfl).alloc (.cells (fcs A g.list.length c g) 36)
   have hm:=(M2.out.trans (fsets_mod w2 RB (fcs none 0 0 fr0)) (by simp;exact HRB.out)).alloc (.cells (fcs A g.list.length c g) 36)
   have HP:=hide (And.intro hb hm)
   clear hb hm
   go_wp2_with fail
   refine bodyPost_ret (results_cell_tmp2_row rfl _ _ RB 36 (fcs none 0 0 fr0) _ rfl ?_ Tryz.underlying36 rfl (by kernel_rfl)) rfl ?_
   ·exact HP.out.1
   exact RdPost.zero HE.out HP.out.2
  | some r=>
   simp only[Option.isNone_some]at p1
   cases hmay:fmay g with
   | false=>
    have HE:=hide (frd_not HG.out HNe.out hmay)
    have HMay:=hide (fun w' (h:Rngs w' A g.list.length g.list)=>may_any w' A g.list.length c g h false hmay)
    have HRg:=hide (HO3.out.rngs (by have:=HL2.out;omega))
    clear hmay
    unfold fval fcs at HMay
    go_wp2_with fail
    refine(HMay.out _ HRg.out).mono ?_
    rintro e w4 ⟨rfl,m4⟩
    have hrb4:=m4.blk (HRB2.out.alloc _) (by simp)
    have HRB4:=hide hrb4
    have hb:=(fsets_blk (fcs none 0 0 fr0) hrb4 rfl rfl)
    have hm:=((HM3.out.trans m4 (by simp)).trans (fsets_mod w4 RB (fcs none 0 0 fr0)) (by simp;exact HRB.out))
    have HP:=hide (And.intro hb hm)
    clear hb hm hrb4 m4 r0 r1 r2 r3 r4 r5 r6 r7 z0 z1 z2 z3 z4 z5 z6 z7 hlRB
    have r0:w4.frozen? ⟨RB,0,none⟩=false:=HRB4.out.frozen 0
    have z0:w4.cell? ⟨RB,0,none⟩=some (.int .u64 0):=HRB4.out.cell 0
    have r1:w4.frozen? ⟨RB,1,none⟩=false:=HRB4.out.frozen 1
    have z1:w4.cell? ⟨RB,1,none⟩=some (.int .u64 0):=HRB4.out.cell 1
    have r2:w4.frozen? ⟨RB,2,none⟩=false:=HRB4.out.frozen 2
    have z2:w4.cell? ⟨RB,2,none⟩=some (.int .u64 0):=HRB4.out.cell 2
    have r3:w4.frozen? ⟨RB,3,none⟩=false:=HRB4.out.frozen 3
    have z3:w4.cell? ⟨RB,3,none⟩=some (.int .u64 0):=HRB4.out.cell 3
    have r4:w4.frozen? ⟨RB,4,none⟩=false:=HRB4.out.frozen 4
    have z4:w4.cell? ⟨RB,4,none⟩=some (.bool false):=HRB4.out.cell 4
    have r5:w4.frozen? ⟨RB,5,none⟩=false:=HRB4.out.frozen 5
    have z5:w4.cell? ⟨RB,5,none⟩=some (.string ⟨#[]⟩):=HRB4.out.cell 5
    have r6:w4.frozen? ⟨RB,6,none⟩=false:=HRB4.out.frozen 6
    have z6:w4.cell? ⟨RB,6,none⟩=some (.string ⟨#[]⟩):=HRB4.out.cell 6
    have r7:w4.frozen? ⟨RB,7,none⟩=false:=HRB4.out.frozen 7
    have z7:w4.cell? ⟨RB,7,none⟩=some (.slice none 0 0):=HRB4.out.cell 7
    have hlRB:=HRB4.out.lt
    go_wp2_with fail
    refine bodyPost_ret (results_cell_tmp2_row rfl _ _ RB 36 (fcs none 0 0 fr0) _ rfl ?_ Tryz.underlying36 rfl (by kernel_rfl)) rfl ?_
    ·exact HP.out.1
    exact RdPost.zero HE.out HP.out.2
   | true=>
    have HE:=hide (frd_yes HG.out HNe.out hmay)
    have HMay:=hide (fun w' (h:Rngs w' A g.list.length g.list)=>may_any w' A g.list.length c g h true hmay)
    have HRg:=hide (HO3.out.rngs (by have:=HL2.out;omega))
    clear hmay
    unfold fval fcs at HMay
    go_wp2_with fail
    refine(HMay.out _ HRg.out).mono ?_
    rintro e w4 ⟨rfl,m4⟩
    have hrb4:=m4.blk (HRB2.out.alloc _) (by simp)
    have HRB4:=hide hrb4
    obtain⟨q0,q1,q2,q3,q4,q5,q6,q7⟩:=fcells (m4.blk HFB.out (by simp))
    have hlF:=(m4.blk HFB.out (by simp)).lt
    have hb:=(fsets_blk (fcs A g.list.length c g) hrb4 rfl rfl)
    have hm:=((HM3.out.trans m4 (by simp)).trans (fsets_mod w4 RB (fcs A g.list.length c g)) (by simp;exact HRB.out))
    have hom:Mod [RB] (w2.alloc (.cells (fcs A g.list.length c g) 36)) (fsets w4 RB (fcs A g.list.length c g)):=(m4.mono (by simp)).trans (fsets_mod w4 RB (fcs A g.list.length c g)) (by simp)
    have ho:=HO3.out.mod hom (fun g' o' hA hmem=>by
     have:=HO3.out.ne (HRB2.out.alloc (.cells (fcs A g.list.length c g) 36)) (by decide) g' o' hA
     exact this (List.mem_singleton.1 hmem))
    have hsw:=(HRB2.out.alloc (.cells (fcs A g.list.length c g) 36)).lt
    have hR4:RB+1 < w4.heap.size:=Nat.lt_of_lt_of_le hlR (Nat.le_trans (by simp) m4.size)
    have p04:w4.cell? ⟨RB+1,0,none⟩=some (.string sr):=by
     have h1:=m4.cell (p:=⟨RB+1,0,none⟩) (by simp;omega) (by simp)
     have h2:=((Mod.refl [] w2).alloc (.cells (fcs A g.list.length c g) 36)).cell (p:=⟨RB+1,0,none⟩) hlR (by simp)
     exact h1.trans (h2.trans p0)
    have hsr2:=HSl.out r rfl
    have HSr:=hide hsr2
    have HP:=hide (And.intro (Blk.drew hb) (And.intro (Mod.drew hm) (ROwn.mod ho ((Mod.refl [] _).drew) (by simp))))
    clear hb hm ho hom hrb4 m4 hsr2 hsw r0 r1 r2 r3 r4 r5 r6 r7 z0 z1 z2 z3 z4 z5 z6 z7 hlRB p0 p1 u0 u1 hlR
    have r0:w4.frozen? ⟨RB,0,none⟩=false:=HRB4.out.frozen 0
    have z0:w4.cell? ⟨RB,0,none⟩=some (.int .u64 0):=HRB4.out.cell 0
    have r1:w4.frozen? ⟨RB,1,none⟩=false:=HRB4.out.frozen 1
    have z1:w4.cell? ⟨RB,1,none⟩=some (.int .u64 0):=HRB4.out.cell 1
    have r2:w4.frozen? ⟨RB,2,none⟩=false:=HRB4.out.frozen 2
    have z2:w4.cell? ⟨RB,2,none⟩=some (.int .u64 0):=HRB4.out.cell 2
    have r3:w4.frozen? ⟨RB,3,none⟩=false:=HRB4.out.frozen 3
    have z3:w4.cell? ⟨RB,3,none⟩=some (.int .u64 0):=HRB4.out.cell 3
    have r4:w4.frozen? ⟨RB,4,none⟩=false:=HRB4.out.frozen 4
    have z4:w4.cell? ⟨RB,4,none⟩=some (.bool false):=HRB4.out.cell 4
    have r5:w4.frozen? ⟨RB,5,none⟩=false:=HRB4.out.frozen 5
    have z5:w4.cell? ⟨RB,5,none⟩=some (.string ⟨#[]⟩):=HRB4.out.cell 5
    have r6:w4.frozen? ⟨RB,6,none⟩=false:=HRB4.out.frozen 6
    have z6:w4.cell? ⟨RB,6,none⟩=some (.string ⟨#[]⟩):=HRB4.out.cell 6
    have r7:w4.frozen? ⟨RB,7,none⟩=false:=HRB4.out.frozen 7
    have z7:w4.cell? ⟨RB,7,none⟩=some (.slice none 0 0):=HRB4.out.cell 7
    have hlRB:=HRB4.out.lt
    go_wp2_with fail
    go_region
    all_goals
     go_wp2_with fail
     refine bodyPost_ret (results_cell_tmp2_row rfl _ _ RB 36 (fcs A g.list.length c g) _ rfl ?_ Tryz.underlying36 rfl (by kernel_rfl)) rfl ?_
     ·exact HP.out.1
     rw[HE.out]
     refine⟨A,c,?_,HP.out.2.2,HL2.out,HP.out.2.1⟩
     have e1:str r=.string sr:=by unfold str;rw[←HSr.out,eta_bytes]
     rw[e1]
     rfl
end Go.Proofs.YtlfjhgamlkbofaaGreatDoor
