/-
  Contracts of the functions that the laws of this seat reach, and plain laws, part 3 of 17; no condition.
-/
import Derived.Test.YtlfjhgamlkbofaaGreatDoorWF1
import Derived.Test.YtlfjhgamlkbofaaGreatDoorWC
import Derived.Shelf.Strings.Repeat
import Derived.RangeFuncBox
import Derived.RangeFuncLeaves
import Derived.OwnWalkIn
import Derived.TacticsInMore
import Derived.LoopNIn
import Derived.LoopIn
import Derived.RangeFuncNested
import Derived.RangeFuncBound
import Derived.RangeFuncCalls
import Derived.Shelf.Abstract
import Derived.Shelf.RegionOpen
set_option linter.unusedVariables false
set_option linter.unusedSimpArgs false
set_option linter.unnecessarySimpa false
set_option maxRecDepth 100000
set_option maxHeartbeats 16000000
namespace Go.Proofs.YtlfjhgamlkbofaaGreatDoor
open Go.RowKit
def zi7:Go.Shelf.Ren:=⟨fun | 99=>197 | 105=>185 | 165=>198 | 166=>80 | 169=>81 | 170=>199 | 206=>109 | 212=>196 | 240=>119 | 241=>213 | 263=>211 | 264=>212 | 276=>153 | 277=>225 | n=>n,fun | 0=>0 | 3=>3 | 4=>4 | 5=>5 | 9=>9 | 20=>20 | 37=>100 | 46=>153 | 51=>189 | 53=>33 | 70=>99 | 72=>102 | 75=>104 | 76=>105 | 80=>107 | 109=>206 | 127=>145 | 146=>190 | 148=>222 | 164=>174 | n=>n,fun n=>n⟩
theorem zp9:Go.Proofs.Lays.n105 Tryz.prog zi7:= {
 mixed:=by kernel_rfl,
 f99:=Tryz.func197.trans (congrArg some (by kernel_rfl)),
 f105:=Tryz.func185.trans (congrArg some (by kernel_rfl)),
 f165:=Tryz.func198.trans (congrArg some (by kernel_rfl)),
 f166:=Tryz.func80.trans (congrArg some (by kernel_rfl)),
 f169:=Tryz.func81.trans (congrArg some (by kernel_rfl)),
 f170:=Tryz.func199.trans (congrArg some (by kernel_rfl)),
 f206:=Tryz.func109.trans (congrArg some (by kernel_rfl)),
 f212:=Tryz.func196.trans (congrArg some (by kernel_rfl)),
 f240:=Tryz.func119.trans (congrArg some (by kernel_rfl)),
 f241:=Tryz.func213.trans (congrArg some (by kernel_rfl)),
 f263:=Tryz.func211.trans (congrArg some (by kernel_rfl)),
 f264:=Tryz.func212.trans (congrArg some (by kernel_rfl)),
 f276:=Tryz.func153.trans (congrArg some (by kernel_rfl)),
 f277:=Tryz.func225.trans (congrArg some (by kernel_rfl)),
 t0:=Tryz.underlying0,
 a0:=Tryz.isAgg0,
 z0:=Tryz.sizeOf0,
 v0:=Tryz.zeroValue0,
 t3:=Tryz.underlying3,
 a3:=Tryz.isAgg3,
 z3:=Tryz.sizeOf3,
 v3:=Tryz.zeroValue3,
 t4:=Tryz.underlying4,
 a4:=Tryz.isAgg4,
 z4:=Tryz.sizeOf4,
 v4:=Tryz.zeroValue4,
 t5:=Tryz.underlying5,
 a5:=Tryz.isAgg5,
 z5:=Tryz.sizeOf5,
 v5:=Tryz.zeroValue5,
 t9:=Tryz.underlying9,
 a9:=Tryz.isAgg9,
 z9:=Tryz.sizeOf9,
 v9:=Tryz.zeroValue9,
 t20:=Tryz.underlying20,
 a20:=Tryz.isAgg20,
 z20:=Tryz.sizeOf20,
 v20:=Tryz.zeroValue20,
 t37:=Tryz.underlying100,
 a37:=Tryz.isAgg100,
 z37:=Tryz.sizeOf100,
 v37:=Tryz.zeroValue100,
 t46:=Tryz.underlying153,
 a46:=Tryz.isAgg153,
 z46:=Tryz.sizeOf153,
 v46:=Tryz.zeroValue153,
 t51:=Tryz.underlying189,
 a51:=Tryz.isAgg189,
 z51:=Tryz.sizeOf189,
 v51:=Tryz.zeroValue189,
 t53:=Tryz.underlying33,
 a53:=Tryz.isAgg33,
 z53:=Tryz.sizeOf33,
 v53:=Tryz.zeroValue33,
 t70:=Tryz.underlying99,
 a70:=Tryz.isAgg99,
 z70:=Tryz.sizeOf99,
 v70:=Tryz.zeroValue99,
 t72:=Tryz.underlying102,
 a72:=Tryz.isAgg102,
 z72:=Tryz.sizeOf102,
 v72:=Tryz.zeroValue102,
 t75:=Tryz.underlying104,
 a75:=Tryz.isAgg104,
 z75:=Tryz.sizeOf104,
 v75:=Tryz.zeroValue104,
 t76:=Tryz.underlying105,
 a76:=Tryz.isAgg105,
 z76:=Tryz.sizeOf105,
 v76:=Tryz.zeroValue105,
 t109:=Tryz.underlying206,
 a109:=Tryz.isAgg206,
 z109:=Tryz.sizeOf206,
 v109:=Tryz.zeroValue206,
 t127:=Tryz.underlying145,
 a127:=Tryz.isAgg145,
 z127:=Tryz.sizeOf145,
 v127:=Tryz.zeroValue145,
 t146:=Tryz.underlying190,
 a146:=Tryz.isAgg190,
 z146:=Tryz.sizeOf190,
 v146:=Tryz.zeroValue190,
 t148:=Tryz.underlying222,
 a148:=Tryz.isAgg222,
 z148:=Tryz.sizeOf222,
 v148:=Tryz.zeroValue222,
 t164:=Tryz.underlying174,
 a164:=Tryz.isAgg174,
 z164:=Tryz.sizeOf174,
 v164:=Tryz.zeroValue174 }
theorem x06:Go.Proofs.Builder.Extra Tryz.prog zi7:= {
 sizeBuilder:=by kernel_rfl,
 liesBuilder:=by kernel_rfl,
 t5:=Tryz.underlying5,
 a5:=Tryz.isAgg5,
 z5:=Tryz.sizeOf5,
 v5:=Tryz.zeroValue5,
 infoByte:=by kernel_rfl,
 cellsByte:=by kernel_rfl,
 sizeByte:=by kernel_rfl,
 neB5:=by decide }
theorem j44 (x:UInt8):∀n,Lib.repeatL [x] n=List.replicate n x
 | 0=>rfl
 | n+1=>by
  rw[List.replicate_succ,←j44 x n]
  rfl
theorem jq2 (w:World) (n:Nat) (hn:n≤16384):
  Calls Tryz.prog 185 #[.string ⟨#[0]⟩,.int .i64 n] w fun e w'=>e=.returned (str (List.replicate n 0))∧Mod [] w w':=by
 have hz:(⟨#[0]⟩:ByteArray).size=1:=rfl;have hc:Calls Tryz.prog 185 #[.string ⟨#[0]⟩,.int .i64 n] w _:=Any.strings_Repeat zp9 x06 ⟨#[0]⟩ n w (by omega) (by rw[hz];omega);refine hc.mono ?_;rintro e w' ⟨rfl,hb⟩;refine⟨?_,⟨hb.os,hb.tape,hb.output,hb.size,fun k hk _=>hb.block k hk⟩⟩;show Ending.returned (str (Lib.repeatL [0] n))=_;rw[j44]
theorem zr4 (sz c:Nat) (h:sz≤20) (W:World) (g:Nat) (hc:W.cell? ⟨g,0,none⟩=some (.int .u8 (sz:Nat))):
  (convert 100 9 (.slice (some ⟨g,0,none⟩) 1 c)).run Tryz.prog W=.ok (.string ⟨#[UInt8.ofNat sz]⟩) W:=
 run_convert_bytes_back (P:=Tryz.prog) W 100 9 5 ⟨g,0,none⟩ c [UInt8.ofNat sz] Tryz.underlying100 Tryz.underlying5 Tryz.underlying9 (fun j hj=>by
  have:j=0:=by simpa using hj
  subst this
  rw[Addr.add_lit,Nat.zero_add,hc]
  simp[UInt8.toNat_ofNat']
  omega)
def FrSd (w2:World) (g:Nat) (A:Option Addr) (n c:Nat) (f:Fr) (w':World):Prop:=(w'.cell? ⟨g,0,none⟩=some (.int .u64 (f.kind:Nat))∧w'.cell? ⟨g,1,none⟩=some (.int .u64 (f.a:Nat))∧w'.cell? ⟨g,2,none⟩=some (.int .u64 (f.b:Nat))∧w'.cell? ⟨g,3,none⟩=some (.int .u64 (f.c:Nat))∧w'.cell? ⟨g,4,none⟩=some (.bool f.fin)∧w'.cell? ⟨g,5,none⟩=some (.string f.data)∧w'.cell? ⟨g,6,none⟩=some (.string f.more)∧w'.cell? ⟨g,7,none⟩=some (.slice A n c))∧Mod [] w2 w'
def FrSk (w2:World) (g:Nat) (A:Option Addr) (n c:Nat) (f:Fr) (k sz:Nat) (w':World):Prop:=FrSd w2 g A n c f w'∧w'.cell? ⟨k,0,none⟩=some (.int .u8 (sz:Nat))
theorem FrSd.of {w2 w':World} {g:Nat} {t:TypeId} {A:Option Addr} {n c:Nat} {f:Fr} (hb:Blk w2 g t (fcs A n c f)) (hm:Mod [] w2 w'):FrSd w2 g A n c f w':=frS hb hm
theorem FrSk.new {w2 w':World} {g:Nat} {t u:TypeId} {A:Option Addr} {n c sz:Nat} {f:Fr} (hb:Blk w2 g t (fcs A n c f)) (hS:FrSd w2 g A n c f w'):
  FrSk w2 g A n c f w'.heap.size sz (w'.alloc (.cells #[.int .u8 (sz:Nat)] u)):=
 ⟨FrSd.of hb (hS.2.alloc _),(Blk.new w' u #[.int .u8 (sz:Nat)]).cell 0⟩
theorem qs2 {P:Program} {fn:Nat} {args:Array Value} {v:Value} {w2 w':World} {g:Nat} {t:TypeId} {A:Option Addr} {n c:Nat} {f:Fr} (hb:Blk w2 g t (fcs A n c f))
  (hc:∀w',Calls P fn args w' fun e w''=>e=.returned v∧Mod [] w' w'') (hS:FrSd w2 g A n c f w'):
  Calls P fn args w' fun e w''=>e=.returned v∧FrSd w2 g A n c f w'':=by
 refine(hc w').mono ?_;rintro e w'' ⟨rfl,m⟩;exact⟨rfl,FrSd.of hb (hS.2.trans m (by simp))⟩
theorem qf4 {P:Program} {fn:Nat} {args:Array Value} {v:Value} {w2 w':World} {g k sz:Nat} {t:TypeId} {A:Option Addr} {n c:Nat} {f:Fr} (hb:Blk w2 g t (fcs A n c f))
  (hc:∀w',Calls P fn args w' fun e w''=>e=.returned v∧Mod [] w' w'') (hS:FrSk w2 g A n c f k sz w'):
  Calls P fn args w' fun e w''=>e=.returned v∧FrSk w2 g A n c f k sz w'':=by
 refine(hc w').mono ?_;rintro e w'' ⟨rfl,m⟩;exact⟨rfl,FrSd.of hb (hS.1.2.trans m (by simp)),(m.cell (World.block_lt_of_cell? _ _ hS.2) (by simp)).trans hS.2⟩
theorem q57 {P:Program} {ops:Array Oper} {Q:Exit→Act→World→Prop} {md:Region.Mode} {S S':World→Prop} (hS:∀w,S' w→S w):
  ∀(fuel:Nat) (listed:Array Bool) (a:Act) (w:World),wpAnyH P md ops Q S' fuel listed a w→wpAnyH P md ops Q S fuel listed a w
 | 0,_,_,_,h=>h
 | fuel+1,_,_,_,h=>⟨h.1,fun i hi=>wpOp_mono (fun a' w' h'=>⟨hS w' h'.1,q57 hS fuel _ a' w' h'.2⟩) (h.2 i hi)⟩
theorem zk8 (w:World) (A:Option Addr) (n c:Nat) (f:Fr) (hk:f.kind=24) (hd:f.data.size≤20) (hm:f.more.size=16):
  Calls Tryz.prog 156 #[q17 A n c f] w fun e w'=>e=.returned (str (qa9 f))∧Mod [] w w':=by
 have HBx:=q00 (Blk.new w 36 (fcs A n c f));obtain⟨K,hK⟩:∃K,q50 24=K:=⟨_,rfl⟩;obtain⟨VA,hA⟩:∃K,q50 f.a=K:=⟨_,rfl⟩;obtain⟨VB,hB⟩:∃K,q50 f.b=K:=⟨_,rfl⟩;obtain⟨D,hD⟩:∃D:ByteArray,(⟨#[UInt8.ofNat f.data.size]⟩:ByteArray)=D:=⟨_,rfl⟩;have s1:K.size≤8:=(by rw[←hK];exact q10 _);have s2:VA.size≤8:=(by rw[←hA];exact q10 _);have s3:VB.size≤8:=(by rw[←hB];exact q10 _);have s4:D.size=1:=(by rw[←hD];rfl);have p1:=fun w=>q18 w 24;have p2:=fun w=>q18 w f.a;have p3:=fun w=>q18 w f.b;rw[hK]at p1;rw[hA]at p2;rw[hB]at p3
 push_cast at p1
 have pp:∀(x:Int) (v:ByteArray),((x=24∧v=K)∨(x=(f.a:Nat)∧v=VA)∨(x=(f.b:Nat)∧v=VB))→∀w,Calls Tryz.prog 157 #[.int .u64 x] w fun e w'=>e=.returned (.string v)∧Mod [] w w':=by
  rintro x v (⟨rfl,rfl⟩ | ⟨rfl,rfl⟩ | ⟨rfl,rfl⟩) w
  ·exact p1 w
  ·exact p2 w
  ·exact p3 w
 have PP:=q00 pp;have hcv:=zr4 f.data.size 1 hd;rw[hD]at hcv;have hw8:IntKind.u8.wrap ((f.data.size:Nat):Int)=(f.data.size:Nat):=IntWalk.u8_in _ (by omega);have hfin:(K++ VA++ VB++ D++ f.data++ f.more).data.toList=qa9 f:=(by rw[q20,q20,q20,q20,q20,←hK,←hA,←hB,←hD];unfold qa9;rw[if_neg (by omega),if_neg (by omega),if_pos hk];unfold z36;simp[q60]);have HF:=q00 hfin;have q1:¬9223372036854775807 < K.size+VA.size:=(by omega);have q2:¬9223372036854775807 < K.size+VA.size+VB.size:=(by omega);have q3:¬9223372036854775807 < K.size+VA.size+VB.size+D.size:=(by omega);have q4:¬9223372036854775807 < K.size+VA.size+VB.size+D.size+f.data.size:=(by omega);have q5:¬9223372036854775807 < K.size+VA.size+VB.size+D.size+f.data.size+f.more.size:=(by omega);obtain⟨R,hR⟩:∃R,qa9 f=R:=⟨_,rfl⟩;rw[hR]at HF ⊢;clear hfin hK hA hB hD hR pp p1 p2 p3;unfold q17 fcs at *;obtain⟨fk,fa,fb,fc,ff,fd,fm,fl⟩:=f;dsimp only at *;subst hk
 push_cast at HBx
 clear s4 hm;go_enter Tryz.func156,Tryz.ntmps156;go_wp2_with fail;obtain⟨w2,hw2⟩:∃w2,w.alloc (.cells #[.int .u64 24,.int .u64 (fa:Nat),.int .u64 (fb:Nat),.int .u64 (fc:Nat),.bool ff,.string fd,.string fm,.slice A n c] 36)=w2:=⟨_,rfl⟩;obtain⟨g,hg⟩:∃g,w.heap.size=g:=⟨_,rfl⟩;have hm:Mod [] w w2:=(by rw[←hw2];exact(Mod.refl _ _).alloc _);have HM2:=q00 hm;rw[hw2,hg]at HBx;rw[hw2];simp only[hg];have HB2:=HBx;have hlt:=HB2.out.lt;clear hw2 hg hm HBx;have HS0:=FrSd.of (f:=⟨24,fa,fb,fc,ff,fd,fm,fl⟩) HB2.out (Mod.refl [] _).drew;refine wp_region_held_drew (S:=FrSd w2 g A n c ⟨24,fa,fb,fc,ff,fd,fm,fl⟩) (by kernel_rfl) HS0 (fun _=> ?_);refine q04 (i:=0) (v:= ?_) 20 rfl rfl (by kernel_rfl) (by kernel_rfl) (by kernel_rfl) (fun _ _ _ h=>h) (Or.inl ⟨by rfl,?_⟩) HS0 ?_;rotate_left
 ·intro w hSw;obtain⟨⟨p0,p1,p2,p3,p4,p5,p6,p7⟩,_⟩:=hSw;dsimp only at p0 p1 p2 p3 p4 p5 p6 p7;go_simp;first | done | (with_reducible rfl)
 simp only[pu];refine q04 (i:=1) (v:= ?_) 21 rfl rfl (by kernel_rfl) (by kernel_rfl) (by kernel_rfl) (fun _ _ _ h=>h) (Or.inl ⟨by rfl,?_⟩) HS0 ?_;rotate_left
 ·intro w hSw;obtain⟨⟨p0,p1,p2,p3,p4,p5,p6,p7⟩,_⟩:=hSw;dsimp only at p0 p1 p2 p3 p4 p5 p6 p7;go_simp;first | done | (with_reducible rfl)
 simp only[pu];refine q04 (i:=3) (v:= ?_) 23 rfl rfl (by kernel_rfl) (by kernel_rfl) (by kernel_rfl) (fun _ _ _ h=>h) (Or.inl ⟨by rfl,?_⟩) HS0 ?_;rotate_left
 ·intro w hSw;obtain⟨⟨p0,p1,p2,p3,p4,p5,p6,p7⟩,_⟩:=hSw;dsimp only at p0 p1 p2 p3 p4 p5 p6 p7;go_simp;first | done | (with_reducible rfl)
 simp only[pu];refine q04 (i:=4) (v:= ?_) 24 rfl rfl (by kernel_rfl) (by kernel_rfl) (by kernel_rfl) (fun _ _ _ h=>h) (Or.inl ⟨by rfl,?_⟩) HS0 ?_;rotate_left
 ·intro w hSw;obtain⟨⟨p0,p1,p2,p3,p4,p5,p6,p7⟩,_⟩:=hSw;dsimp only at p0 p1 p2 p3 p4 p5 p6 p7;go_simp;first | done | (with_reducible rfl)
 simp only[pu];refine q04 (i:=7) (v:= ?_) 27 rfl rfl (by kernel_rfl) (by kernel_rfl) (by kernel_rfl) (fun _ _ _ h=>h) (Or.inl ⟨by rfl,?_⟩) HS0 ?_;rotate_left
 ·intro w hSw;obtain⟨⟨p0,p1,p2,p3,p4,p5,p6,p7⟩,_⟩:=hSw;dsimp only at p0 p1 p2 p3 p4 p5 p6 p7;go_simp;first | done | (with_reducible rfl)
 simp only[pu];refine q04 (i:=8) (v:= ?_) 28 rfl rfl (by kernel_rfl) (by kernel_rfl) (by kernel_rfl) (fun _ _ _ h=>h) (Or.inl ⟨by rfl,?_⟩) HS0 ?_;rotate_left
 ·intro w hSw;obtain⟨⟨p0,p1,p2,p3,p4,p5,p6,p7⟩,_⟩:=hSw;dsimp only at p0 p1 p2 p3 p4 p5 p6 p7;go_simp;first | done | (with_reducible rfl)
 simp only[pu];refine q04 (i:=11) (v:= ?_) 31 rfl rfl (by kernel_rfl) (by kernel_rfl) (by kernel_rfl) (fun _ _ _ h=>h) (Or.inl ⟨by rfl,?_⟩) HS0 ?_;rotate_left
 ·intro w hSw;obtain⟨⟨p0,p1,p2,p3,p4,p5,p6,p7⟩,_⟩:=hSw;dsimp only at p0 p1 p2 p3 p4 p5 p6 p7;go_simp;first | done | (with_reducible rfl)
 simp only[pu];refine q04 (i:=12) (v:= ?_) 32 rfl rfl (by kernel_rfl) (by kernel_rfl) (by kernel_rfl) (fun _ _ _ h=>h) (Or.inl ⟨by rfl,?_⟩) HS0 ?_;rotate_left
 ·intro w hSw;obtain⟨⟨p0,p1,p2,p3,p4,p5,p6,p7⟩,_⟩:=hSw;dsimp only at p0 p1 p2 p3 p4 p5 p6 p7;go_simp;first | done | (with_reducible rfl)
 simp only[pu];refine q04 (i:=13) (v:= ?_) 33 rfl rfl (by kernel_rfl) (by kernel_rfl) (by kernel_rfl) (fun _ _ _ h=>h) (Or.inl ⟨by rfl,?_⟩) HS0 ?_;rotate_left
 ·intro w hSw;obtain⟨⟨p0,p1,p2,p3,p4,p5,p6,p7⟩,_⟩:=hSw;dsimp only at p0 p1 p2 p3 p4 p5 p6 p7;go_simp;first | done | (with_reducible rfl)
 simp only[pu];refine q04 (i:=14) (v:= ?_) 34 rfl rfl (by kernel_rfl) (by kernel_rfl) (by kernel_rfl) (fun _ _ _ h=>h) (Or.inl ⟨by rfl,?_⟩) HS0 ?_;rotate_left
 ·intro w hSw;obtain⟨⟨p0,p1,p2,p3,p4,p5,p6,p7⟩,_⟩:=hSw;dsimp only at p0 p1 p2 p3 p4 p5 p6 p7;go_simp;first | done | (with_reducible rfl)
 simp only[pu];refine q04 (i:=18) (v:= ?_) 38 rfl rfl (by kernel_rfl) (by kernel_rfl) (by kernel_rfl) (fun _ _ _ h=>h) (Or.inl ⟨by rfl,?_⟩) HS0 ?_;rotate_left
 ·intro w hSw;obtain⟨⟨p0,p1,p2,p3,p4,p5,p6,p7⟩,_⟩:=hSw;dsimp only at p0 p1 p2 p3 p4 p5 p6 p7;go_simp;first | done | (with_reducible rfl)
 simp only[pu];refine q04 (i:=19) (v:= ?_) 39 rfl rfl (by kernel_rfl) (by kernel_rfl) (by kernel_rfl) (fun _ _ _ h=>h) (Or.inl ⟨by rfl,?_⟩) HS0 ?_;rotate_left
 ·intro w hSw;obtain⟨⟨p0,p1,p2,p3,p4,p5,p6,p7⟩,_⟩:=hSw;dsimp only at p0 p1 p2 p3 p4 p5 p6 p7;go_simp;first | done | (with_reducible rfl)
 simp only[pu];refine q04 (i:=21) (v:= ?_) 41 rfl rfl (by kernel_rfl) (by kernel_rfl) (by kernel_rfl) (fun _ _ _ h=>h) (Or.inl ⟨by rfl,?_⟩) HS0 ?_;rotate_left
 ·intro w hSw;obtain⟨⟨p0,p1,p2,p3,p4,p5,p6,p7⟩,_⟩:=hSw;dsimp only at p0 p1 p2 p3 p4 p5 p6 p7;go_simp;first | done | (with_reducible rfl)
 simp only[pu];refine q04 (i:=22) (v:= ?_) 42 rfl rfl (by kernel_rfl) (by kernel_rfl) (by kernel_rfl) (fun _ _ _ h=>h) (Or.inl ⟨by rfl,?_⟩) HS0 ?_;rotate_left
 ·intro w hSw;obtain⟨⟨p0,p1,p2,p3,p4,p5,p6,p7⟩,_⟩:=hSw;dsimp only at p0 p1 p2 p3 p4 p5 p6 p7;go_simp;first | done | (with_reducible rfl)
 simp only[pu];refine wpAnyH_ready (rs:= [2,15]) (by kernel_rfl) (by simp) ?_;refine AllReadyH.cons rfl (fun K hK=> ?_) (AllReadyH.cons rfl (fun K hK=> ?_) AllReadyH.nil)
 ·go_simp;go_at_call 157;refine(qs2 (f:=⟨24,fa,fb,fc,ff,fd,fm,fl⟩) HB2.out (PP.out _ _ (by first | exact Or.inl ⟨rfl,rfl⟩ | exact Or.inr (Or.inl ⟨rfl,rfl⟩) | exact Or.inr (Or.inr ⟨rfl,rfl⟩))) HS0).mono ?_;rintro e v1 ⟨rfl,hSv1⟩;go_wp2_with fail;refine hK.out _ _ hSv1 (fun _=> ?_);clear hK K;(try simp only[pu]);refine wpAnyH_ready (rs:= [5,15]) (by kernel_rfl) (by simp) ?_;refine AllReadyH.cons rfl (fun K hK=> ?_) (AllReadyH.cons rfl (fun K hK=> ?_) AllReadyH.nil)
  ·go_simp;go_at_call 157;refine(qs2 (f:=⟨24,fa,fb,fc,ff,fd,fm,fl⟩) HB2.out (PP.out _ _ (by first | exact Or.inl ⟨rfl,rfl⟩ | exact Or.inr (Or.inl ⟨rfl,rfl⟩) | exact Or.inr (Or.inr ⟨rfl,rfl⟩))) hSv1).mono ?_;rintro e v2 ⟨rfl,hSv2⟩;go_wp2_with fail;refine hK.out _ _ hSv2 (fun _=> ?_);clear hK K;(try simp only[pu]);refine q04 (i:=6) (v:= ?_) 26 rfl rfl (by kernel_rfl) (by kernel_rfl) (by kernel_rfl) (fun _ _ _ h=>h) (Or.inl ⟨by rfl,?_⟩) hSv2 ?_;rotate_left
   ·intro w hSw;obtain⟨⟨p0,p1,p2,p3,p4,p5,p6,p7⟩,_⟩:=hSw;dsimp only at p0 p1 p2 p3 p4 p5 p6 p7;go_simp;first | done | (with_reducible rfl)
   simp only[pu];refine wpAnyH_ready (rs:= [9,15]) (by kernel_rfl) (by simp) ?_;refine AllReadyH.cons rfl (fun K hK=> ?_) (AllReadyH.cons rfl (fun K hK=> ?_) AllReadyH.nil)
   ·go_simp;go_at_call 157;refine(qs2 (f:=⟨24,fa,fb,fc,ff,fd,fm,fl⟩) HB2.out (PP.out _ _ (by first | exact Or.inl ⟨rfl,rfl⟩ | exact Or.inr (Or.inl ⟨rfl,rfl⟩) | exact Or.inr (Or.inr ⟨rfl,rfl⟩))) hSv2).mono ?_;rintro e v3 ⟨rfl,hSv3⟩;go_wp2_with fail;refine hK.out _ _ hSv3 (fun _=> ?_);clear hK K;(try simp only[pu]);refine q04 (i:=10) (v:= ?_) 30 rfl rfl (by kernel_rfl) (by kernel_rfl) (by kernel_rfl) (fun _ _ _ h=>h) (Or.inl ⟨by rfl,?_⟩) hSv3 ?_;rotate_left
    ·intro w hSw;obtain⟨⟨p0,p1,p2,p3,p4,p5,p6,p7⟩,_⟩:=hSw;dsimp only at p0 p1 p2 p3 p4 p5 p6 p7;go_simp;first | done | (with_reducible rfl)
    simp only[pu];refine wpAnyH_ready (rs:= [15]) (by kernel_rfl) (by simp) ?_;refine AllReadyH.cons rfl (fun K hK=> ?_) AllReadyH.nil;go_simp;have hT4:=FrSk.new (u:=5) (sz:=fd.size) (f:=⟨24,fa,fb,fc,ff,fd,fm,fl⟩) HB2.out hSv3;refine hK.out _ _ hT4.1 (fun _=> ?_);clear hK K;(try simp only[pu]);refine q57 (fun _ h=>h.1) _ _ _ _ (?_:wpAnyH _ _ _ _ (FrSk w2 g A n c ⟨24,fa,fb,fc,ff,fd,fm,fl⟩ v3.heap.size fd.size) _ _ _ _);refine q04 (i:=16) (v:= ?_) 36 rfl rfl (by kernel_rfl) (by kernel_rfl) (by kernel_rfl) (fun _ _ _ h=>h) (Or.inl ⟨by rfl,?_⟩) hT4 ?_;rotate_left
    ·intro w hSw;obtain⟨⟨p0,p1,p2,p3,p4,p5,p6,p7⟩,_⟩:=hSw.1;dsimp only at p0 p1 p2 p3 p4 p5 p6 p7;have hz:=hSw.2;go_simp;first | done | (with_reducible rfl)
    simp only[pu];refine q04 (i:=17) (v:= ?_) 37 rfl rfl (by kernel_rfl) (by kernel_rfl) (by kernel_rfl) (fun _ _ _ h=>h) (Or.inl ⟨by rfl,?_⟩) hT4 ?_;rotate_left
    ·intro w hSw;obtain⟨⟨p0,p1,p2,p3,p4,p5,p6,p7⟩,_⟩:=hSw.1;dsimp only at p0 p1 p2 p3 p4 p5 p6 p7;have hz:=hSw.2;go_simp;first | done | (with_reducible rfl)
    simp only[pu];refine q04 (i:=20) (v:= ?_) 40 rfl rfl (by kernel_rfl) (by kernel_rfl) (by kernel_rfl) (fun _ _ _ h=>h) (Or.inl ⟨by rfl,?_⟩) hT4 ?_;rotate_left
    ·intro w hSw;obtain⟨⟨p0,p1,p2,p3,p4,p5,p6,p7⟩,_⟩:=hSw.1;dsimp only at p0 p1 p2 p3 p4 p5 p6 p7;have hz:=hSw.2;go_simp;first | done | (with_reducible rfl)
    simp only[pu];refine q04 (i:=23) (v:= ?_) 43 rfl rfl (by kernel_rfl) (by kernel_rfl) (by kernel_rfl) (fun _ _ _ h=>h) (Or.inl ⟨by rfl,?_⟩) hT4 ?_;rotate_left
    ·intro w hSw;obtain⟨⟨p0,p1,p2,p3,p4,p5,p6,p7⟩,_⟩:=hSw.1;dsimp only at p0 p1 p2 p3 p4 p5 p6 p7;have hz:=hSw.2;go_simp;first | done | (with_reducible rfl)
    simp only[pu];refine q04 (i:=24) (v:= ?_) 2 rfl rfl (by kernel_rfl) (by kernel_rfl) (by kernel_rfl) (fun _ _ _ h=>h) (Or.inl ⟨by rfl,?_⟩) hT4 ?_;rotate_left
    ·intro w hSw;obtain⟨⟨p0,p1,p2,p3,p4,p5,p6,p7⟩,_⟩:=hSw.1;dsimp only at p0 p1 p2 p3 p4 p5 p6 p7;have hz:=hSw.2;go_simp;first | done | (with_reducible rfl)
    simp only[pu];refine wpAnyH_done (by kernel_rfl) ?_ _;go_wp2_with fail;go_ret;exact⟨congrArg _ (qt0 HF.out),HM2.out.trans hT4.1.2 (by simp)⟩
   ·go_simp;have hT5:=FrSk.new (u:=5) (sz:=fd.size) (f:=⟨24,fa,fb,fc,ff,fd,fm,fl⟩) HB2.out hSv2;refine hK.out _ _ hT5.1 (fun _=> ?_);clear hK K;(try simp only[pu]);refine q57 (fun _ h=>h.1) _ _ _ _ (?_:wpAnyH _ _ _ _ (FrSk w2 g A n c ⟨24,fa,fb,fc,ff,fd,fm,fl⟩ v2.heap.size fd.size) _ _ _ _);refine q04 (i:=16) (v:= ?_) 36 rfl rfl (by kernel_rfl) (by kernel_rfl) (by kernel_rfl) (fun _ _ _ h=>h) (Or.inl ⟨by rfl,?_⟩) hT5 ?_;rotate_left
    ·intro w hSw;obtain⟨⟨p0,p1,p2,p3,p4,p5,p6,p7⟩,_⟩:=hSw.1;dsimp only at p0 p1 p2 p3 p4 p5 p6 p7;have hz:=hSw.2;go_simp;first | done | (with_reducible rfl)
    simp only[pu];refine wpAnyH_ready (rs:= [9]) (by kernel_rfl) (by simp) ?_;refine AllReadyH.cons rfl (fun K hK=> ?_) AllReadyH.nil;go_simp;go_at_call 157;refine(qf4 (f:=⟨24,fa,fb,fc,ff,fd,fm,fl⟩) HB2.out (PP.out _ _ (by first | exact Or.inl ⟨rfl,rfl⟩ | exact Or.inr (Or.inl ⟨rfl,rfl⟩) | exact Or.inr (Or.inr ⟨rfl,rfl⟩))) hT5).mono ?_;rintro e v6 ⟨rfl,hSv6⟩;go_wp2_with fail;refine hK.out _ _ hSv6 (fun _=> ?_);clear hK K;(try simp only[pu]);refine q04 (i:=10) (v:= ?_) 30 rfl rfl (by kernel_rfl) (by kernel_rfl) (by kernel_rfl) (fun _ _ _ h=>h) (Or.inl ⟨by rfl,?_⟩) hSv6 ?_;rotate_left
    ·intro w hSw;obtain⟨⟨p0,p1,p2,p3,p4,p5,p6,p7⟩,_⟩:=hSw.1;dsimp only at p0 p1 p2 p3 p4 p5 p6 p7;have hz:=hSw.2;go_simp;first | done | (with_reducible rfl)
    simp only[pu];refine q04 (i:=17) (v:= ?_) 37 rfl rfl (by kernel_rfl) (by kernel_rfl) (by kernel_rfl) (fun _ _ _ h=>h) (Or.inl ⟨by rfl,?_⟩) hSv6 ?_;rotate_left
    ·intro w hSw;obtain⟨⟨p0,p1,p2,p3,p4,p5,p6,p7⟩,_⟩:=hSw.1;dsimp only at p0 p1 p2 p3 p4 p5 p6 p7;have hz:=hSw.2;go_simp;first | done | (with_reducible rfl)
    simp only[pu];refine q04 (i:=20) (v:= ?_) 40 rfl rfl (by kernel_rfl) (by kernel_rfl) (by kernel_rfl) (fun _ _ _ h=>h) (Or.inl ⟨by rfl,?_⟩) hSv6 ?_;rotate_left
    ·intro w hSw;obtain⟨⟨p0,p1,p2,p3,p4,p5,p6,p7⟩,_⟩:=hSw.1;dsimp only at p0 p1 p2 p3 p4 p5 p6 p7;have hz:=hSw.2;go_simp;first | done | (with_reducible rfl)
    simp only[pu];refine q04 (i:=23) (v:= ?_) 43 rfl rfl (by kernel_rfl) (by kernel_rfl) (by kernel_rfl) (fun _ _ _ h=>h) (Or.inl ⟨by rfl,?_⟩) hSv6 ?_;rotate_left
    ·intro w hSw;obtain⟨⟨p0,p1,p2,p3,p4,p5,p6,p7⟩,_⟩:=hSw.1;dsimp only at p0 p1 p2 p3 p4 p5 p6 p7;have hz:=hSw.2;go_simp;first | done | (with_reducible rfl)
    simp only[pu];refine q04 (i:=24) (v:= ?_) 2 rfl rfl (by kernel_rfl) (by kernel_rfl) (by kernel_rfl) (fun _ _ _ h=>h) (Or.inl ⟨by rfl,?_⟩) hSv6 ?_;rotate_left
    ·intro w hSw;obtain⟨⟨p0,p1,p2,p3,p4,p5,p6,p7⟩,_⟩:=hSw.1;dsimp only at p0 p1 p2 p3 p4 p5 p6 p7;have hz:=hSw.2;go_simp;first | done | (with_reducible rfl)
    simp only[pu];refine wpAnyH_done (by kernel_rfl) ?_ _;go_wp2_with fail;go_ret;exact⟨congrArg _ (qt0 HF.out),HM2.out.trans hSv6.1.2 (by simp)⟩
  ·go_simp;have hT7:=FrSk.new (u:=5) (sz:=fd.size) (f:=⟨24,fa,fb,fc,ff,fd,fm,fl⟩) HB2.out hSv1;refine hK.out _ _ hT7.1 (fun _=> ?_);clear hK K;(try simp only[pu]);refine q57 (fun _ h=>h.1) _ _ _ _ (?_:wpAnyH _ _ _ _ (FrSk w2 g A n c ⟨24,fa,fb,fc,ff,fd,fm,fl⟩ v1.heap.size fd.size) _ _ _ _);refine q04 (i:=16) (v:= ?_) 36 rfl rfl (by kernel_rfl) (by kernel_rfl) (by kernel_rfl) (fun _ _ _ h=>h) (Or.inl ⟨by rfl,?_⟩) hT7 ?_;rotate_left
   ·intro w hSw;obtain⟨⟨p0,p1,p2,p3,p4,p5,p6,p7⟩,_⟩:=hSw.1;dsimp only at p0 p1 p2 p3 p4 p5 p6 p7;have hz:=hSw.2;go_simp;first | done | (with_reducible rfl)
   simp only[pu];refine wpAnyH_ready (rs:= [5]) (by kernel_rfl) (by simp) ?_;refine AllReadyH.cons rfl (fun K hK=> ?_) AllReadyH.nil;go_simp;go_at_call 157;refine(qf4 (f:=⟨24,fa,fb,fc,ff,fd,fm,fl⟩) HB2.out (PP.out _ _ (by first | exact Or.inl ⟨rfl,rfl⟩ | exact Or.inr (Or.inl ⟨rfl,rfl⟩) | exact Or.inr (Or.inr ⟨rfl,rfl⟩))) hT7).mono ?_;rintro e v8 ⟨rfl,hSv8⟩;go_wp2_with fail;refine hK.out _ _ hSv8 (fun _=> ?_);clear hK K;(try simp only[pu]);refine q04 (i:=6) (v:= ?_) 26 rfl rfl (by kernel_rfl) (by kernel_rfl) (by kernel_rfl) (fun _ _ _ h=>h) (Or.inl ⟨by rfl,?_⟩) hSv8 ?_;rotate_left
   ·intro w hSw;obtain⟨⟨p0,p1,p2,p3,p4,p5,p6,p7⟩,_⟩:=hSw.1;dsimp only at p0 p1 p2 p3 p4 p5 p6 p7;have hz:=hSw.2;go_simp;first | done | (with_reducible rfl)
   simp only[pu];refine wpAnyH_ready (rs:= [9]) (by kernel_rfl) (by simp) ?_;refine AllReadyH.cons rfl (fun K hK=> ?_) AllReadyH.nil;go_simp;go_at_call 157;refine(qf4 (f:=⟨24,fa,fb,fc,ff,fd,fm,fl⟩) HB2.out (PP.out _ _ (by first | exact Or.inl ⟨rfl,rfl⟩ | exact Or.inr (Or.inl ⟨rfl,rfl⟩) | exact Or.inr (Or.inr ⟨rfl,rfl⟩))) hSv8).mono ?_;rintro e v9 ⟨rfl,hSv9⟩;go_wp2_with fail;refine hK.out _ _ hSv9 (fun _=> ?_);clear hK K;(try simp only[pu]);refine q04 (i:=10) (v:= ?_) 30 rfl rfl (by kernel_rfl) (by kernel_rfl) (by kernel_rfl) (fun _ _ _ h=>h) (Or.inl ⟨by rfl,?_⟩) hSv9 ?_;rotate_left
   ·intro w hSw;obtain⟨⟨p0,p1,p2,p3,p4,p5,p6,p7⟩,_⟩:=hSw.1;dsimp only at p0 p1 p2 p3 p4 p5 p6 p7;have hz:=hSw.2;go_simp;first | done | (with_reducible rfl)
   simp only[pu];refine q04 (i:=17) (v:= ?_) 37 rfl rfl (by kernel_rfl) (by kernel_rfl) (by kernel_rfl) (fun _ _ _ h=>h) (Or.inl ⟨by rfl,?_⟩) hSv9 ?_;rotate_left
   ·intro w hSw;obtain⟨⟨p0,p1,p2,p3,p4,p5,p6,p7⟩,_⟩:=hSw.1;dsimp only at p0 p1 p2 p3 p4 p5 p6 p7;have hz:=hSw.2;go_simp;first | done | (with_reducible rfl)
   simp only[pu];refine q04 (i:=20) (v:= ?_) 40 rfl rfl (by kernel_rfl) (by kernel_rfl) (by kernel_rfl) (fun _ _ _ h=>h) (Or.inl ⟨by rfl,?_⟩) hSv9 ?_;rotate_left
   ·intro w hSw;obtain⟨⟨p0,p1,p2,p3,p4,p5,p6,p7⟩,_⟩:=hSw.1;dsimp only at p0 p1 p2 p3 p4 p5 p6 p7;have hz:=hSw.2;go_simp;first | done | (with_reducible rfl)
   simp only[pu];refine q04 (i:=23) (v:= ?_) 43 rfl rfl (by kernel_rfl) (by kernel_rfl) (by kernel_rfl) (fun _ _ _ h=>h) (Or.inl ⟨by rfl,?_⟩) hSv9 ?_;rotate_left
   ·intro w hSw;obtain⟨⟨p0,p1,p2,p3,p4,p5,p6,p7⟩,_⟩:=hSw.1;dsimp only at p0 p1 p2 p3 p4 p5 p6 p7;have hz:=hSw.2;go_simp;first | done | (with_reducible rfl)
   simp only[pu];refine q04 (i:=24) (v:= ?_) 2 rfl rfl (by kernel_rfl) (by kernel_rfl) (by kernel_rfl) (fun _ _ _ h=>h) (Or.inl ⟨by rfl,?_⟩) hSv9 ?_;rotate_left
   ·intro w hSw;obtain⟨⟨p0,p1,p2,p3,p4,p5,p6,p7⟩,_⟩:=hSw.1;dsimp only at p0 p1 p2 p3 p4 p5 p6 p7;have hz:=hSw.2;go_simp;first | done | (with_reducible rfl)
   simp only[pu];refine wpAnyH_done (by kernel_rfl) ?_ _;go_wp2_with fail;go_ret;exact⟨congrArg _ (qt0 HF.out),HM2.out.trans hSv9.1.2 (by simp)⟩
 ·go_simp;have hT10:=FrSk.new (u:=5) (sz:=fd.size) (f:=⟨24,fa,fb,fc,ff,fd,fm,fl⟩) HB2.out HS0;refine hK.out _ _ hT10.1 (fun _=> ?_);clear hK K;(try simp only[pu]);refine q57 (fun _ h=>h.1) _ _ _ _ (?_:wpAnyH _ _ _ _ (FrSk w2 g A n c ⟨24,fa,fb,fc,ff,fd,fm,fl⟩ w2.heap.size fd.size) _ _ _ _);refine q04 (i:=16) (v:= ?_) 36 rfl rfl (by kernel_rfl) (by kernel_rfl) (by kernel_rfl) (fun _ _ _ h=>h) (Or.inl ⟨by rfl,?_⟩) hT10 ?_;rotate_left
  ·intro w hSw;obtain⟨⟨p0,p1,p2,p3,p4,p5,p6,p7⟩,_⟩:=hSw.1;dsimp only at p0 p1 p2 p3 p4 p5 p6 p7;have hz:=hSw.2;go_simp;first | done | (with_reducible rfl)
  simp only[pu];refine wpAnyH_ready (rs:= [2]) (by kernel_rfl) (by simp) ?_;refine AllReadyH.cons rfl (fun K hK=> ?_) AllReadyH.nil;go_simp;go_at_call 157;refine(qf4 (f:=⟨24,fa,fb,fc,ff,fd,fm,fl⟩) HB2.out (PP.out _ _ (by first | exact Or.inl ⟨rfl,rfl⟩ | exact Or.inr (Or.inl ⟨rfl,rfl⟩) | exact Or.inr (Or.inr ⟨rfl,rfl⟩))) hT10).mono ?_;rintro e v11 ⟨rfl,hSv11⟩;go_wp2_with fail;refine hK.out _ _ hSv11 (fun _=> ?_);clear hK K;(try simp only[pu]);refine wpAnyH_ready (rs:= [5]) (by kernel_rfl) (by simp) ?_;refine AllReadyH.cons rfl (fun K hK=> ?_) AllReadyH.nil;go_simp;go_at_call 157;refine(qf4 (f:=⟨24,fa,fb,fc,ff,fd,fm,fl⟩) HB2.out (PP.out _ _ (by first | exact Or.inl ⟨rfl,rfl⟩ | exact Or.inr (Or.inl ⟨rfl,rfl⟩) | exact Or.inr (Or.inr ⟨rfl,rfl⟩))) hSv11).mono ?_;rintro e v12 ⟨rfl,hSv12⟩;go_wp2_with fail;refine hK.out _ _ hSv12 (fun _=> ?_);clear hK K;(try simp only[pu]);refine q04 (i:=6) (v:= ?_) 26 rfl rfl (by kernel_rfl) (by kernel_rfl) (by kernel_rfl) (fun _ _ _ h=>h) (Or.inl ⟨by rfl,?_⟩) hSv12 ?_;rotate_left
  ·intro w hSw;obtain⟨⟨p0,p1,p2,p3,p4,p5,p6,p7⟩,_⟩:=hSw.1;dsimp only at p0 p1 p2 p3 p4 p5 p6 p7;have hz:=hSw.2;go_simp;first | done | (with_reducible rfl)
  simp only[pu];refine wpAnyH_ready (rs:= [9]) (by kernel_rfl) (by simp) ?_;refine AllReadyH.cons rfl (fun K hK=> ?_) AllReadyH.nil;go_simp;go_at_call 157;refine(qf4 (f:=⟨24,fa,fb,fc,ff,fd,fm,fl⟩) HB2.out (PP.out _ _ (by first | exact Or.inl ⟨rfl,rfl⟩ | exact Or.inr (Or.inl ⟨rfl,rfl⟩) | exact Or.inr (Or.inr ⟨rfl,rfl⟩))) hSv12).mono ?_;rintro e v13 ⟨rfl,hSv13⟩;go_wp2_with fail;refine hK.out _ _ hSv13 (fun _=> ?_);clear hK K;(try simp only[pu]);refine q04 (i:=10) (v:= ?_) 30 rfl rfl (by kernel_rfl) (by kernel_rfl) (by kernel_rfl) (fun _ _ _ h=>h) (Or.inl ⟨by rfl,?_⟩) hSv13 ?_;rotate_left
  ·intro w hSw;obtain⟨⟨p0,p1,p2,p3,p4,p5,p6,p7⟩,_⟩:=hSw.1;dsimp only at p0 p1 p2 p3 p4 p5 p6 p7;have hz:=hSw.2;go_simp;first | done | (with_reducible rfl)
  simp only[pu];refine q04 (i:=17) (v:= ?_) 37 rfl rfl (by kernel_rfl) (by kernel_rfl) (by kernel_rfl) (fun _ _ _ h=>h) (Or.inl ⟨by rfl,?_⟩) hSv13 ?_;rotate_left
  ·intro w hSw;obtain⟨⟨p0,p1,p2,p3,p4,p5,p6,p7⟩,_⟩:=hSw.1;dsimp only at p0 p1 p2 p3 p4 p5 p6 p7;have hz:=hSw.2;go_simp;first | done | (with_reducible rfl)
  simp only[pu];refine q04 (i:=20) (v:= ?_) 40 rfl rfl (by kernel_rfl) (by kernel_rfl) (by kernel_rfl) (fun _ _ _ h=>h) (Or.inl ⟨by rfl,?_⟩) hSv13 ?_;rotate_left
  ·intro w hSw;obtain⟨⟨p0,p1,p2,p3,p4,p5,p6,p7⟩,_⟩:=hSw.1;dsimp only at p0 p1 p2 p3 p4 p5 p6 p7;have hz:=hSw.2;go_simp;first | done | (with_reducible rfl)
  simp only[pu];refine q04 (i:=23) (v:= ?_) 43 rfl rfl (by kernel_rfl) (by kernel_rfl) (by kernel_rfl) (fun _ _ _ h=>h) (Or.inl ⟨by rfl,?_⟩) hSv13 ?_;rotate_left
  ·intro w hSw;obtain⟨⟨p0,p1,p2,p3,p4,p5,p6,p7⟩,_⟩:=hSw.1;dsimp only at p0 p1 p2 p3 p4 p5 p6 p7;have hz:=hSw.2;go_simp;first | done | (with_reducible rfl)
  simp only[pu];refine q04 (i:=24) (v:= ?_) 2 rfl rfl (by kernel_rfl) (by kernel_rfl) (by kernel_rfl) (fun _ _ _ h=>h) (Or.inl ⟨by rfl,?_⟩) hSv13 ?_;rotate_left
  ·intro w hSw;obtain⟨⟨p0,p1,p2,p3,p4,p5,p6,p7⟩,_⟩:=hSw.1;dsimp only at p0 p1 p2 p3 p4 p5 p6 p7;have hz:=hSw.2;go_simp;first | done | (with_reducible rfl)
  simp only[pu];refine wpAnyH_done (by kernel_rfl) ?_ _;go_wp2_with fail;go_ret;exact⟨congrArg _ (qt0 HF.out),HM2.out.trans hSv13.1.2 (by simp)⟩
theorem zk9 (w:World) (A:Option Addr) (n c:Nat) (f:Fr) (hk:f.kind=0) (ha:f.a≤16384):
  Calls Tryz.prog 156 #[q17 A n c f] w fun e w'=>e=.returned (str (qa9 f))∧Mod [] w w':=by
 have HRep:=q00 (fun w=>jq2 w f.a ha);have hw:qa9 f=List.replicate f.a 0:=(by unfold qa9;rw[if_pos hk]);have hwr:IntKind.i64.wrap ((f.a:Nat):Int)=(f.a:Nat):=IntWalk.i64_in _ (by omega);rw[hw];have hkb:((f.kind:Int)==0)=true:=(by simp;omega);obtain⟨R,hR⟩:∃R,(List.replicate f.a 0:List UInt8)=R:=⟨_,rfl⟩;rw[hR]at HRep ⊢;clear hw hR hk;unfold q17 fcs;go_enter Tryz.func156,Tryz.ntmps156;go_wp2_with fail;refine(HRep.out _).mono ?_;rintro e w1 ⟨rfl,m1⟩;go_wp2_with fail;go_ret;exact⟨rfl,((Mod.refl _ _).alloc _).trans m1 (by simp)⟩
theorem zl0 (w:World) (A:Option Addr) (n c:Nat) (f:Fr) (hk:f.kind=8) (hd:f.data.size≤16384):
  Calls Tryz.prog 156 #[q17 A n c f] w fun e w'=>e=.returned (str (qa9 f))∧Mod [] w w':=by
 have hs:=fun w=>jx w A n c f hd;have hw:qa9 f=q38 f:=(by unfold qa9;rw[if_neg (by omega),if_pos hk]);rw[hw];have h0:((f.kind:Int)==0)=false:=(by simp;omega);have h8:((f.kind:Int)==8)=true:=(by simp;omega);obtain⟨R,hR⟩:∃R,q38 f=R:=⟨_,rfl⟩;rw[hR]at hs ⊢;have HS:=q00 hs;clear hw hR hk hs;unfold q17 fcs at *;go_enter Tryz.func156,Tryz.ntmps156;go_wp2_with fail;refine(HS.out _).mono ?_;rintro e w1 ⟨rfl,m1⟩;go_wp2_with fail;go_ret;exact⟨rfl,((Mod.refl _ _).alloc _).trans m1 (by simp)⟩
def qb0 (l:List (Nat×Nat)):Nat→List UInt8
 | 0=> []
 | j+1=>qb0 l j++ ((if 0 < j then q03 ((l.getD (j - 1) (0,0)).1 - (l.getD j (0,0)).2 - 2)else [])++ q03 ((l.getD j (0,0)).2 - (l.getD j (0,0)).1))
theorem j61 (l:List (Nat×Nat)):∀j,(qb0 l j).length≤16 * j
 | 0=>by simp[qb0]
 | j+1=>by
  have h1:=j61 l j
  have h2:=q11 ((l.getD j (0,0)).2 - (l.getD j (0,0)).1)
  have h3:=q11 ((l.getD (j - 1) (0,0)).1 - (l.getD j (0,0)).2 - 2)
  unfold qb0
  simp only[List.length_append]
  split
  ·omega
  ·simp only[List.length_nil];omega
theorem jl4 (r:Nat×Nat) (t:List (Nat×Nat)):∀j,j≤t.length→qb0 (r ::t) (j+1)++ qa5 ((r ::t).getD j (0,0)).1 (t.drop j)=q03 (r.2 - r.1)++ qa5 r.1 t
 | 0,_=>by simp[qb0]
 | j+1,h=>by
  have h1:=jl4 r t j (by omega)
  rw[←h1,List.drop_eq_getElem_cons (by omega:j < t.length)]
  rw[show qb0 (r ::t) (j+1+1)=qb0 (r ::t) (j+1)++ ((if 0 < j+1 then q03 (((r ::t).getD (j+1 - 1) (0,0)).1 - ((r ::t).getD (j+1) (0,0)).2 - 2)else [])++ q03 (((r ::t).getD (j+1) (0,0)).2 - ((r ::t).getD (j+1) (0,0)).1))from rfl]
  have e:(r ::t).getD (j+1) (0,0)=t[j]:=by
   rw[List.getD_cons_succ,List.getD_eq_getElem?_getD,List.getElem?_eq_getElem (by omega)];rfl
  rw[if_pos (by omega),e,Nat.add_sub_cancel,qa5]
  simp only[List.append_assoc]
theorem qy5 (r:Nat×Nat) (t:List (Nat×Nat)):qb0 (r ::t) (r ::t).length=q03 (r.2 - r.1)++ qa5 r.1 t:=by have:=jl4 r t t.length (Nat.le_refl _);rw[List.drop_length]at this;rw[←this];simp[qa5]
theorem qk6:∀(l:List (Nat×Nat)) (prev:Option Nat),q56 prev l=true→∀i (h:i < l.length),l[i].1≤l[i].2∧l[i].2 < 4611686018427387904∧(∀h0:0 < i,l[i].2+2≤l[i - 1].1)
 | [],_,_,i,h=>by simp at h
 | r ::t,prev,hr,i,h=>by
  obtain⟨h1,h2,_,h4⟩:=qq8 hr
  match i with
  | 0=>exact⟨h1,h2,fun h0=>absurd h0 (by omega)⟩
  | 1=>
   have hl:0 < t.length:=by simp at h;omega
   have ht:=qk6 t _ h4 0 hl
   refine⟨ht.1,ht.2.1,fun _=> ?_⟩
   match t,h4,hl with
   | q ::u,h4,_=>
    obtain⟨_,_,h7,_⟩:=qq8 h4
    have:=h7 _ rfl
    simp only[List.getElem_cons_succ,List.getElem_cons_zero,Nat.sub_self]
    omega
  | k+2=>
   have hl:k+1 < t.length:=by simp at h;omega
   have ht:=qk6 t _ h4 (k+1) hl
   exact⟨ht.1,ht.2.1,fun _=>ht.2.2 (by omega)⟩
def AX (w:World) (g:Nat) (cs:Array Value) (w':World):Prop:=Blk w' g 36 cs∧Mod [] w w'
def AXr (w:World) (g:Nat) (cs:Array Value) (rb:Nat) (rs:Array Value) (w':World):Prop:=AX w g cs w'∧Blk w' rb 77 rs
theorem AX.mod {w w' w'':World} {g:Nat} {cs:Array Value} (h:AX w g cs w') (m:Mod [] w' w''):AX w g cs w'':=⟨m.blk h.1 (by simp),h.2.trans m (by simp)⟩
theorem AX.bld {w w' w'':World} {g b:Nat} {cs:Array Value} (h:AX w g cs w') (m:BStep w.heap.size b w' w'') (hg:g≠b):AX w g cs w'':=⟨m.blk h.1 hg (by decide),m.mod h.2 (Nat.le_refl _)⟩
theorem AXr.mod {w w' w'':World} {g rb:Nat} {cs rs:Array Value} (h:AXr w g cs rb rs w') (m:Mod [] w' w''):AXr w g cs rb rs w'':=⟨h.1.mod m,m.blk h.2 (by simp)⟩
theorem AXr.bld {w w' w'':World} {g b rb:Nat} {cs rs:Array Value} (h:AXr w g cs rb rs w') (m:BStep w.heap.size b w' w'') (hg:g≠b) (hr:rb≠b):AXr w g cs rb rs w'':=⟨h.1.bld m hg,m.blk h.2 hr (by decide)⟩
theorem qh9 {P:Program} {fn:Nat} {args:Array Value} {v:Value} {X:World→Prop} {w':World} {B b:Nat} {l:List UInt8} (hX:∀w' w'',X w'→Mod [] w' w''→X w'')
  (hc:∀w',Calls P fn args w' fun e w''=>e=.returned v∧Mod [] w' w'') (h:X w') (hB:BldO w' B b l):
  Calls P fn args w' fun e w''=>e=.returned v∧X w''∧BldO w'' B b l:=by
 refine(hc w').mono ?_;rintro e w'' ⟨rfl,m⟩;exact⟨rfl,hX _ _ h m,hB.mod m (by simp)⟩
theorem qf3 {X:World→Prop} {w w':World} {b:Nat} {l:List UInt8} (s:ByteArray) (hX:∀w' w'',X w'→BStep w.heap.size b w' w''→X w'') (hs:∀w',X w'→w.heap.size≤w'.heap.size)
  (h:X w') (hB:BldO w' w.heap.size b l) (hl:l.length+s.size≤140737488355328):
  Calls Tryz.prog 80 #[.pointer (some ⟨b,0,none⟩),.string s] w' fun e w''=>e=.returned (.tuple #[.int .i64 s.size,.nilIface])∧X w''∧BldO w'' w.heap.size b (l++ s.data.toList):=by
 refine(q54 w' w.heap.size b l s hB hl (hs _ h)).mono ?_;rintro e w'' ⟨rfl,h1,h2⟩;exact⟨rfl,hX _ _ h h2,h1⟩
theorem z98 (w:World) (A:Option Addr) (n c:Nat) (f:Fr) (hk:f.kind=2) (hr:Rngs w A n f.list) (hro:rngs f.list=true):
  Calls Tryz.prog 156 #[q17 A n c f] w fun e w'=>e=.returned (str (qa9 f))∧Mod [] w w':=by
 unfold rngs at hro;simp only[Bool.and_eq_true,decide_eq_true_eq]at hro;obtain⟨hok,hl1,hl64⟩:=hro;have hall:=qk6 f.list none hok;have hln:=hr.1;obtain⟨gl,o,x1,rfl,hgl,x2,x3⟩:=hr.at_ (i:=0) (by omega);clear x2 x3 x1;have hcell:∀i,i < n→w.cell? ⟨gl,o+i * 2,none⟩=some (.int .u64 ((f.list.getD i (0,0)).1:Nat))∧w.cell? ⟨gl,o+i * 2+1,none⟩=some (.int .u64 ((f.list.getD i (0,0)).2:Nat)):=fun i hi=>(by obtain⟨g',o',hl,he,_,c0,c1⟩:=hr.at_ hi;cases he;rw[List.getD_eq_getElem?_getD,List.getElem?_eq_getElem hl];exact⟨c0,c1⟩);have hall2:∀i,i < n→(f.list.getD i (0,0)).1≤(f.list.getD i (0,0)).2∧(f.list.getD i (0,0)).2 < 4611686018427387904∧(0 < i→(f.list.getD i (0,0)).2+2≤(f.list.getD (i - 1) (0,0)).1):=fun i hi=>by have hl:i < f.list.length:=(by omega);have h:=hall i hl;rw[List.getD_eq_getElem?_getD,List.getElem?_eq_getElem hl];refine⟨h.1,h.2.1,fun h0=> ?_⟩;rw[List.getD_eq_getElem?_getD,List.getElem?_eq_getElem (by omega:i - 1 < f.list.length)];exact h.2.2 h0
 have hstep:∀j,qb0 f.list (j+1)=qb0 f.list j++ ((if 0 < j then q03 ((f.list.getD (j - 1) (0,0)).1 - (f.list.getD j (0,0)).2 - 2)else [])++ q03 ((f.list.getD j (0,0)).2 - (f.list.getD j (0,0)).1)):=fun j=>rfl;have hplen:=j61 f.list;have hway:∀R,R=q03 2++ (q03 (f.list.getD 0 (0,0)).2++ (q03 f.a++ (q03 (n - 1)++ (qb0 f.list n++ []))))→R=qa9 f:=fun R hR=>by
  rw[hR];unfold qa9;rw[if_neg (by omega),if_neg (by omega),if_neg (by omega)];unfold ji5;rw[←hln];cases hf:f.list with
  | nil=>rw[hf]at hl1;simp at hl1
  | cons r t=>rw[qy5];simp only[hk,List.append_assoc,List.length_cons,Nat.add_sub_cancel,List.getD_cons_zero];rfl
 obtain⟨lo,hlo⟩:∃lo:Nat→Nat,lo=fun i=>(f.list.getD i (0,0)).1:=⟨_,rfl⟩;obtain⟨hi,hhi⟩:∃hi:Nat→Nat,hi=fun i=>(f.list.getD i (0,0)).2:=⟨_,rfl⟩;obtain⟨PB,hPB⟩:∃PB:Nat→List UInt8,PB=qb0 f.list:=⟨_,rfl⟩;have hP0:PB 0= []:=(by rw[hPB];rfl);have HCell:Hid (∀i,i < n→w.cell? ⟨gl,o+i * 2,none⟩=some (.int .u64 (lo i:Nat))∧w.cell? ⟨gl,o+i * 2+1,none⟩=some (.int .u64 (hi i:Nat))):=q00 (by rw[hlo,hhi];exact hcell);have HAll:Hid (∀i,i < n→lo i≤hi i∧hi i < 4611686018427387904∧(0 < i→hi i+2≤lo (i - 1))):=q00 (by rw[hlo,hhi];exact hall2);have HStep:Hid (∀j,PB (j+1)=PB j++ ((if 0 < j then q03 (lo (j - 1) - hi j - 2)else [])++ q03 (hi j - lo j))):=q00 (by rw[hlo,hhi,hPB];exact hstep);have HPlen:Hid (∀j,(PB j).length≤16 * j):=q00 (by rw[hPB];exact hplen);have hway2:∀R,R=q03 2++ (q03 (hi 0)++ (q03 f.a++ (q03 (n - 1)++ (PB n++ []))))→R=qa9 f:=(by rw[hhi,hPB];exact hway);obtain⟨W,hW⟩:∃W,qa9 f=W:=⟨_,rfl⟩;rw[hW]at hway2 ⊢;have HWay:=q00 hway2;have hn64:n≤64:=(by omega);have hn1:1≤n:=(by omega);clear hway hway2 hstep hplen hall hall2 hcell hok hl1 hl64 hlo hhi hPB hW hr hln;unfold q17 fcs at *;obtain⟨fk,fa,fb,fc,ff,fd,fm,fl⟩:=f;dsimp only at *;subst hk;clear fl
 push_cast
 obtain⟨m,hm⟩:∃m,n=m+1:=⟨n - 1,by omega⟩;have e1:(n:Int) - 1=(m:Int):=(by omega);have hw1:IntKind.i64.wrap ((n:Int) - 1)=(m:Int):=(by rw[e1];exact IntWalk.i64_in _ (by omega));have hw2:IntKind.u64.wrap (m:Int)=(m:Int):=IntWalk.u64_in _ (by omega);have hw3:IntKind.i64.wrap (m:Int)=(m:Int):=IntWalk.i64_in _ (by omega);have hw4:IntKind.u64.wrap (IntKind.i64.wrap (m:Int))=(m:Int):=(by rw[hw3];exact hw2);have hm1:n - 1=m:=(by omega);have hn0:(0:Int) < (n:Int):=(by omega);have hnp:0 < n:=(by omega);rw[hm1]at HWay;obtain⟨K,hK⟩:∃K,q50 2=K:=⟨_,rfl⟩;obtain⟨h0,hh0⟩:∃h0,hi 0=h0:=⟨_,rfl⟩;obtain⟨VH,hH⟩:∃K,q50 h0=K:=⟨_,rfl⟩;obtain⟨VA,hA⟩:∃K,q50 fa=K:=⟨_,rfl⟩;obtain⟨VN,hN⟩:∃K,q50 m=K:=⟨_,rfl⟩;have s1:K.size≤8:=(by rw[←hK];exact q10 _);have s2:VH.size≤8:=(by rw[←hH];exact q10 _);have s3:VA.size≤8:=(by rw[←hA];exact q10 _);have s4:VN.size≤8:=(by rw[←hN];exact q10 _);have pp:∀(x:Int) (v:ByteArray),((x=2∧v=K)∨(x=(h0:Nat)∧v=VH)∨(x=(fa:Nat)∧v=VA)∨(x=(m:Nat)∧v=VN))→∀w,Calls Tryz.prog 157 #[.int .u64 x] w fun e w'=>e=.returned (.string v)∧Mod [] w w':=by
  rintro x v (⟨rfl,rfl⟩ | ⟨rfl,rfl⟩ | ⟨rfl,rfl⟩ | ⟨rfl,rfl⟩) w
  ·rw[←hK];exact q18 w 2
  ·rw[←hH];exact q18 w h0
  ·rw[←hA];exact q18 w fa
  ·rw[←hN];exact q18 w m
 have PP:=q00 pp;obtain⟨HD,hHD⟩:∃D:ByteArray,K++ VH++ VA++ VN=D:=⟨_,rfl⟩;have hHs:HD.size≤32:=(by rw[←hHD,ByteArray.size_append,ByteArray.size_append,ByteArray.size_append];omega);have hHl:HD.data.toList=q03 2++ (q03 h0++ (q03 fa++ q03 m)):=(by rw[←hHD,q20,q20,q20,←hK,←hH,←hA,←hN];simp[q60]);have HHl:=q00 hHl;have q1:¬9223372036854775807 < K.size+VH.size:=(by omega);have q2:¬9223372036854775807 < K.size+VH.size+VA.size:=(by omega);have q3:¬9223372036854775807 < K.size+VH.size+VA.size+VN.size:=(by omega);have c01:=(HCell.out 0 (by omega)).2;rw[hh0]at c01 HWay;simp only[Nat.zero_mul,Nat.add_zero]at c01;clear pp hHl hK hH hA hN hh0 hm;have k0:((2:Int)==0)=false:=(by decide);go_enter Tryz.func156,Tryz.ntmps156;go_wp2_with fail;obtain⟨w2,hw2w⟩:∃w2,(w.alloc (.cells #[.int .u64 2,.int .u64 (fa:Nat),.int .u64 (fb:Nat),.int .u64 (fc:Nat),.bool ff,.string fd,.string fm,.slice (some ⟨gl,o,none⟩) n c] 36)).alloc (.cells #[.pointer none,.slice none 0 0] 102)=w2:=⟨_,rfl⟩;have hX0:AX w w.heap.size #[.int .u64 2,.int .u64 (fa:Nat),.int .u64 (fb:Nat),.int .u64 (fc:Nat),.bool ff,.string fd,.string fm,.slice (some ⟨gl,o,none⟩) n c] w2:=(by rw[←hw2w];exact⟨(Blk.new _ _ _).alloc _,((Mod.refl _ _).alloc _).alloc _⟩);have hBl0:BldO w2 w.heap.size (w.heap.size+1) []:=(by rw[←hw2w];have:=Blk.new (w.alloc (.cells #[.int .u64 2,.int .u64 (fa:Nat),.int .u64 (fb:Nat),.int .u64 (fc:Nat),.bool ff,.string fd,.string fm,.slice (some ⟨gl,o,none⟩) n c] 36)) 102 #[.pointer none,.slice none 0 0];rw[World.size_alloc]at this;exact BldO.fresh this (by omega));rw[hw2w];have HXm:Hid (∀w' w'',AX w w.heap.size #[.int .u64 2,.int .u64 (fa:Nat),.int .u64 (fb:Nat),.int .u64 (fc:Nat),.bool ff,.string fd,.string fm,.slice (some ⟨gl,o,none⟩) n c] w'→Mod [] w' w''→AX w w.heap.size #[.int .u64 2,.int .u64 (fa:Nat),.int .u64 (fb:Nat),.int .u64 (fc:Nat),.bool ff,.string fd,.string fm,.slice (some ⟨gl,o,none⟩) n c] w''):=q00 (fun _ _ h m=>h.mod m);have HXb:Hid (∀w' w'',AX w w.heap.size #[.int .u64 2,.int .u64 (fa:Nat),.int .u64 (fb:Nat),.int .u64 (fc:Nat),.bool ff,.string fd,.string fm,.slice (some ⟨gl,o,none⟩) n c] w'→BStep w.heap.size (w.heap.size+1) w' w''→AX w w.heap.size #[.int .u64 2,.int .u64 (fa:Nat),.int .u64 (fb:Nat),.int .u64 (fc:Nat),.bool ff,.string fd,.string fm,.slice (some ⟨gl,o,none⟩) n c] w''):=q00 (fun _ _ h m=>h.bld m (by omega));have HXs:Hid (∀w',AX w w.heap.size #[.int .u64 2,.int .u64 (fa:Nat),.int .u64 (fb:Nat),.int .u64 (fc:Nat),.bool ff,.string fd,.string fm,.slice (some ⟨gl,o,none⟩) n c] w'→w.heap.size≤w'.heap.size):=q00 (fun _ h=>h.2.size);have HFc:Hid (∀w',AX w w.heap.size #[.int .u64 2,.int .u64 (fa:Nat),.int .u64 (fb:Nat),.int .u64 (fc:Nat),.bool ff,.string fd,.string fm,.slice (some ⟨gl,o,none⟩) n c] w'→w'.cell? ⟨w.heap.size,0,none⟩=some (.int .u64 2)∧w'.cell? ⟨w.heap.size,1,none⟩=some (.int .u64 (fa:Nat))∧w'.cell? ⟨w.heap.size,2,none⟩=some (.int .u64 (fb:Nat))∧w'.cell? ⟨w.heap.size,3,none⟩=some (.int .u64 (fc:Nat))∧w'.cell? ⟨w.heap.size,4,none⟩=some (.bool ff)∧w'.cell? ⟨w.heap.size,5,none⟩=some (.string fd)∧w'.cell? ⟨w.heap.size,6,none⟩=some (.string fm)∧w'.cell? ⟨w.heap.size,7,none⟩=some (.slice (some ⟨gl,o,none⟩) n c)):=q00 (fun w' h=>⟨h.1.cell 0,h.1.cell 1,h.1.cell 2,h.1.cell 3,h.1.cell 4,h.1.cell 5,h.1.cell 6,h.1.cell 7⟩);have HOld:Hid (∀w' (p:Addr) v,AX w w.heap.size #[.int .u64 2,.int .u64 (fa:Nat),.int .u64 (fb:Nat),.int .u64 (fc:Nat),.bool ff,.string fd,.string fm,.slice (some ⟨gl,o,none⟩) n c] w'→p.block < w.heap.size→w.cell? p=some v→w'.cell? p=some v):=q00 (fun w' p v h hp hc=>(h.2.cell hp (by simp)).trans hc);have HBd:=hBl0.mod (Mod.refl [] w2).drew (by simp);have hX1:=HXm.out _ _ hX0 (Mod.refl [] w2).drew;have HS:=q00 (And.intro (And.intro (HFc.out _ hX1) (HOld.out _ ⟨gl,o+1,none⟩ _ hX1 hgl c01)) hX1);have HC01:=q00 c01;have HGl:=q00 hgl;clear hw2w hX0 hBl0 hX1 c01 hgl;go_region_held3 (fun w'=>((w'.cell? ⟨w.heap.size,0,none⟩=some (.int .u64 2)∧w'.cell? ⟨w.heap.size,1,none⟩=some (.int .u64 (fa:Nat))∧w'.cell? ⟨w.heap.size,2,none⟩=some (.int .u64 (fb:Nat))∧w'.cell? ⟨w.heap.size,3,none⟩=some (.int .u64 (fc:Nat))∧w'.cell? ⟨w.heap.size,4,none⟩=some (.bool ff)∧w'.cell? ⟨w.heap.size,5,none⟩=some (.string fd)∧w'.cell? ⟨w.heap.size,6,none⟩=some (.string fm)∧w'.cell? ⟨w.heap.size,7,none⟩=some (.slice (some ⟨gl,o,none⟩) n c))∧w'.cell? ⟨gl,o+1,none⟩=some (.int .u64 (h0:Nat)))∧AX w w.heap.size #[.int .u64 2,.int .u64 (fa:Nat),.int .u64 (fb:Nat),.int .u64 (fc:Nat),.bool ff,.string fd,.string fm,.slice (some ⟨gl,o,none⟩) n c] w')
  (first | exact HS.out | assumption)
  (first
   | (go_at_call 157;refine(qh9 HXm.out (PP.out _ _ (by first | exact Or.inl ⟨rfl,rfl⟩ | exact Or.inr (Or.inl ⟨rfl,rfl⟩) | exact Or.inr (Or.inr (Or.inl ⟨rfl,rfl⟩)) | exact Or.inr (Or.inr (Or.inr ⟨by first | rfl | exact hw4 | exact e1 | exact hw1 | exact hw2 | (rw[hw1];exact hw2) | (rw[e1];exact hw2),rfl⟩)))) (And.right (by assumption)) (by assumption)).mono ?_;rintro e w' ⟨rfl,hX',hB'⟩;have hS':=And.intro (And.intro (HFc.out _ hX') (HOld.out _ ⟨gl,o+1,none⟩ _ hX' HGl.out HC01.out)) hX')
   | (go_at_call 80;refine(qf3 _ HXb.out HXs.out (And.right (by assumption)) (by assumption) (by first | (simp;omega) | omega)).mono ?_;rintro e w' ⟨rfl,hX',hB'⟩;have hS':=And.intro (And.intro (HFc.out _ hX') (HOld.out _ ⟨gl,o+1,none⟩ _ hX' HGl.out HC01.out)) hX'))
 rw[List.nil_append]at hB';obtain⟨p0,p1,p2,p3,p4,p5,p6,p7⟩:=HFc.out _ hX';have HX2:=q00 hX';have HB2:=q00 hB';clear hS' hX' hB' HS HBd PP;go_wp2_with fail;go_loopw [69] (fun iv wr=>∃j:Nat,j≤n∧iv=.int .i64 (j:Int)∧BldO wr w.heap.size (w.heap.size+1) (HD.data.toList++ PB j)∧AX w w.heap.size #[.int .u64 2,.int .u64 (fa:Nat),.int .u64 (fb:Nat),.int .u64 (fc:Nat),.bool ff,.string fd,.string fm,.slice (some ⟨gl,o,none⟩) n c] wr) (fun iv _=>n - (intOf iv).toNat)
 case atStart=>exact⟨0,by omega,rfl,by rw[hP0,List.append_nil];exact HB2.out,HX2.out⟩
 case round=>
  clear p0 p1 p2 p3 p4 p5 p6 p7 HX2 HB2;obtain⟨j,hj,rfl,hB,hX⟩:=hrel;by_cases h:j < n
  ·obtain⟨cl,ch⟩:=HCell.out j h;obtain⟨al1,al2,al3⟩:=HAll.out j h;have c0:=HOld.out wr ⟨gl,o+j * 2,none⟩ _ hX HGl.out cl;have c1:=HOld.out wr ⟨gl,o+j * 2+1,none⟩ _ hX HGl.out ch;have hst:=HStep.out j;have hpl:=HPlen.out j;obtain⟨lj,hlj⟩:∃x,lo j=x:=⟨_,rfl⟩;obtain⟨hj2,hhj⟩:∃x,hi j=x:=⟨_,rfl⟩;rw[hlj]at c0 al1 hst;rw[hhj]at c1 al1 al2 al3 hst;obtain⟨d,hd⟩:∃d,hj2 - lj=d:=⟨_,rfl⟩;rw[hd]at hst;have ed:(hj2:Int) - lj=(d:Int):=(by omega);have hwd:IntKind.u64.wrap ((hj2:Int) - lj)=(d:Int):=(by rw[ed];exact IntWalk.u64_in _ (by omega));have hwd2:IntKind.u64.wrap (d:Int)=(d:Int):=IntWalk.u64_in _ (by omega);obtain⟨VD,hVD⟩:∃K,q50 d=K:=⟨_,rfl⟩;have hvd:VD.size≤8:=(by rw[←hVD];exact q10 _);have hvl:VD.data.toList=q03 d:=(by rw[←hVD];rfl);rw[←hvl]at hst;have HPD:=q00 (fun w=>q18 w d);rw[hVD]at HPD;obtain⟨rs,hrs⟩:∃rs:Array Value,rs= #[.int .u64 (lj:Nat),.int .u64 (hj2:Nat)]:=⟨_,rfl⟩;have hXr:AXr w w.heap.size #[.int .u64 2,.int .u64 (fa:Nat),.int .u64 (fb:Nat),.int .u64 (fc:Nat),.bool ff,.string fd,.string fm,.slice (some ⟨gl,o,none⟩) n c] wr.heap.size rs (wr.alloc (.cells rs 77)):=⟨hX.mod ((Mod.refl _ _).alloc _),Blk.new _ _ _⟩;have hBr:=hB.mod ((Mod.refl [] wr).alloc (.cells rs 77)) (by simp);have hbw:=hB.lt;have hbw2:wr.heap.size≠w.heap.size+1:=(by omega);have r0:=hXr.2.cell 0;have r1:=hXr.2.cell 1;rw[hrs]at r0 r1 hXr hBr;have HXr:=q00 hXr;have HBr:=q00 hBr;have HSt:=q00 hst;have HPl:=q00 hpl;have HAl3:=q00 al3;have hrl:=hXr.2.lt;clear cl ch al3 hst hpl hlj hhj hd hVD hvl hXr hBr hrs hB;simp only[List.getElem?_toArray,List.getElem?_cons_succ,List.getElem?_cons_zero]at r0 r1;by_cases hj0:j=0
   ·subst hj0;simp only[Nat.zero_mul,Nat.add_zero]at c0 c1;go_wp2_with fail;refine(qh9 (X:=AXr w w.heap.size #[.int .u64 2,.int .u64 (fa:Nat),.int .u64 (fb:Nat),.int .u64 (fc:Nat),.bool ff,.string fd,.string fm,.slice (some ⟨gl,o,none⟩) n c] wr.heap.size #[.int .u64 (lj:Nat),.int .u64 (hj2:Nat)]) (fun _ _ h m=>h.mod m) HPD.out HXr.out HBr.out).mono ?_;rintro e w3 ⟨rfl,hX3,hB3⟩;go_wp2_with fail;refine(qf3 (X:=AXr w w.heap.size #[.int .u64 2,.int .u64 (fa:Nat),.int .u64 (fb:Nat),.int .u64 (fc:Nat),.bool ff,.string fd,.string fm,.slice (some ⟨gl,o,none⟩) n c] wr.heap.size #[.int .u64 (lj:Nat),.int .u64 (hj2:Nat)]) VD (fun _ _ h m=>h.bld m (by omega) hbw2) (fun _ h=>h.1.2.size) hX3 hB3 (by have:=HPl.out;simp only[List.length_append,q05];omega)).mono ?_;rintro e w4 ⟨rfl,hX4,hB4⟩;go_wp2_with fail;go_roundw
    case rel=>exact⟨0+1,by omega,by go_num,by rw[HSt.out,if_neg (by omega),List.nil_append,←List.append_assoc];exact hB4,hX4.1⟩
    case measure=>simp[intOf];omega
   ·have hjp:0 < j:=(by omega);obtain⟨jm,hjm⟩:∃jm,j - 1=jm:=⟨_,rfl⟩;obtain⟨cp,_⟩:=HCell.out (j - 1) (by omega);have al4:=HAl3.out hjp;obtain⟨ap1,ap2,_⟩:=HAll.out (j - 1) (by omega);have HSt2:=HSt.out;rw[hjm]at cp al4 ap1 ap2 HSt2;obtain⟨lp,hlp⟩:∃x,lo jm=x:=⟨_,rfl⟩;rw[hlp]at cp al4 ap1 HSt2;obtain⟨x,hx⟩:∃x,lp - hj2=x:=⟨_,rfl⟩;obtain⟨y,hy⟩:∃y,x - 2=y:=⟨_,rfl⟩;rw[if_pos hjp,hx,hy]at HSt2;have ex:(lp:Int) - hj2=(x:Int):=(by omega);have hwx:IntKind.u64.wrap ((lp:Int) - hj2)=(x:Int):=(by rw[ex];exact IntWalk.u64_in _ (by omega));have hwx2:IntKind.u64.wrap (x:Int)=(x:Int):=IntWalk.u64_in _ (by omega);have ey:(x:Int) - 2=(y:Int):=(by omega);have hwy:IntKind.u64.wrap ((x:Int) - 2)=(y:Int):=(by rw[ey];exact IntWalk.u64_in _ (by omega));have hwy2:IntKind.u64.wrap (y:Int)=(y:Int):=IntWalk.u64_in _ (by omega);obtain⟨VE,hVE⟩:∃K,q50 y=K:=⟨_,rfl⟩;have hve:VE.size≤8:=(by rw[←hVE];exact q10 _);have hvel:VE.data.toList=q03 y:=(by rw[←hVE];rfl);rw[←hvel]at HSt2;have HPE:=q00 (fun w=>q18 w y);rw[hVE]at HPE;have HSt3:=q00 HSt2;have HCp:=q00 cp;have f1:(j:Int) - 1=(jm:Int):=(by omega);have fw1:IntKind.i64.wrap ((j:Int) - 1)=(jm:Int):=(by rw[f1];exact IntWalk.i64_in _ (by omega));have fw2:IntKind.i64.wrap (jm:Int)=(jm:Int):=IntWalk.i64_in _ (by omega);have fj0:(0:Int)≤(jm:Int):=(by omega);have fjm:(jm:Int) < n:=(by omega);have fjn:jm < n:=(by omega);have fjd:decide ((0:Int) < j)=true:=decide_eq_true (by omega);have fje:decide (0 < j)=true:=decide_eq_true hjp;clear HSt HSt2 hlp hx hy hVE hvel cp hjm;go_wp2_with fail;clear r0 r1 c0 c1;have HFr:Hid (∀w',AXr w w.heap.size #[.int .u64 2,.int .u64 (fa:Nat),.int .u64 (fb:Nat),.int .u64 (fc:Nat),.bool ff,.string fd,.string fm,.slice (some ⟨gl,o,none⟩) n c] wr.heap.size #[.int .u64 (lj:Nat),.int .u64 (hj2:Nat)] w'→(w'.cell? ⟨w.heap.size,0,none⟩=some (.int .u64 2)∧w'.cell? ⟨w.heap.size,1,none⟩=some (.int .u64 (fa:Nat))∧w'.cell? ⟨w.heap.size,2,none⟩=some (.int .u64 (fb:Nat))∧w'.cell? ⟨w.heap.size,3,none⟩=some (.int .u64 (fc:Nat))∧w'.cell? ⟨w.heap.size,4,none⟩=some (.bool ff)∧w'.cell? ⟨w.heap.size,5,none⟩=some (.string fd)∧w'.cell? ⟨w.heap.size,6,none⟩=some (.string fm)∧w'.cell? ⟨w.heap.size,7,none⟩=some (.slice (some ⟨gl,o,none⟩) n c))∧w'.cell? ⟨gl,o+jm * 2,none⟩=some (.int .u64 (lp:Nat))∧w'.cell? ⟨wr.heap.size,0,none⟩=some (.int .u64 (lj:Nat))∧w'.cell? ⟨wr.heap.size,1,none⟩=some (.int .u64 (hj2:Nat))):=q00 (fun w' h=>⟨HFc.out _ h.1,HOld.out w' ⟨gl,o+jm * 2,none⟩ _ h.1 HGl.out HCp.out,h.2.cell 0,h.2.cell 1⟩);have HBd:=HBr.out.mod (Mod.refl [] (wr.alloc (.cells #[.int .u64 (lj:Nat),.int .u64 (hj2:Nat)] 77))).drew (by simp);have hX1:=HXr.out.mod (Mod.refl [] (wr.alloc (.cells #[.int .u64 (lj:Nat),.int .u64 (hj2:Nat)] 77))).drew;have HS:=q00 (And.intro (HFr.out _ hX1) hX1);clear hX1;go_region_held3 (fun w'=>((w'.cell? ⟨w.heap.size,0,none⟩=some (.int .u64 2)∧w'.cell? ⟨w.heap.size,1,none⟩=some (.int .u64 (fa:Nat))∧w'.cell? ⟨w.heap.size,2,none⟩=some (.int .u64 (fb:Nat))∧w'.cell? ⟨w.heap.size,3,none⟩=some (.int .u64 (fc:Nat))∧w'.cell? ⟨w.heap.size,4,none⟩=some (.bool ff)∧w'.cell? ⟨w.heap.size,5,none⟩=some (.string fd)∧w'.cell? ⟨w.heap.size,6,none⟩=some (.string fm)∧w'.cell? ⟨w.heap.size,7,none⟩=some (.slice (some ⟨gl,o,none⟩) n c))∧w'.cell? ⟨gl,o+jm * 2,none⟩=some (.int .u64 (lp:Nat))∧w'.cell? ⟨wr.heap.size,0,none⟩=some (.int .u64 (lj:Nat))∧w'.cell? ⟨wr.heap.size,1,none⟩=some (.int .u64 (hj2:Nat)))∧AXr w w.heap.size #[.int .u64 2,.int .u64 (fa:Nat),.int .u64 (fb:Nat),.int .u64 (fc:Nat),.bool ff,.string fd,.string fm,.slice (some ⟨gl,o,none⟩) n c] wr.heap.size #[.int .u64 (lj:Nat),.int .u64 (hj2:Nat)] w')
     (first | exact HS.out | assumption)
     (first
      | (go_at_call 157;refine(qh9 (X:=AXr w w.heap.size #[.int .u64 2,.int .u64 (fa:Nat),.int .u64 (fb:Nat),.int .u64 (fc:Nat),.bool ff,.string fd,.string fm,.slice (some ⟨gl,o,none⟩) n c] wr.heap.size #[.int .u64 (lj:Nat),.int .u64 (hj2:Nat)]) (fun _ _ h m=>h.mod m) HPE.out (And.right (by assumption)) (by assumption)).mono ?_;rintro e w' ⟨rfl,hX',hB'⟩;have hS':=And.intro (HFr.out _ hX') hX')
      | (go_at_call 80;refine(qf3 (X:=AXr w w.heap.size #[.int .u64 2,.int .u64 (fa:Nat),.int .u64 (fb:Nat),.int .u64 (fc:Nat),.bool ff,.string fd,.string fm,.slice (some ⟨gl,o,none⟩) n c] wr.heap.size #[.int .u64 (lj:Nat),.int .u64 (hj2:Nat)]) _ (fun _ _ h m=>h.bld m (by omega) hbw2) (fun _ h=>h.1.2.size) (And.right (by assumption)) (by assumption) (by have:=HPl.out;simp only[List.length_append,q05];omega)).mono ?_;rintro e w' ⟨rfl,hX',hB'⟩;have hS':=And.intro (HFr.out _ hX') hX'))
    obtain⟨_,_,r0,r1⟩:=HFr.out _ hX';have hbl:=hX'.2.lt;have HX5:=q00 hX';have HB5:=q00 hB';clear hX' hB' hS' HS HBd HFr;go_wp2_with fail;refine(qh9 (X:=AXr w w.heap.size #[.int .u64 2,.int .u64 (fa:Nat),.int .u64 (fb:Nat),.int .u64 (fc:Nat),.bool ff,.string fd,.string fm,.slice (some ⟨gl,o,none⟩) n c] wr.heap.size #[.int .u64 (lj:Nat),.int .u64 (hj2:Nat)]) (fun _ _ h m=>h.mod m) HPD.out HX5.out HB5.out).mono ?_;rintro e w3 ⟨rfl,hX3,hB3⟩;go_wp2_with fail;refine(qf3 (X:=AXr w w.heap.size #[.int .u64 2,.int .u64 (fa:Nat),.int .u64 (fb:Nat),.int .u64 (fc:Nat),.bool ff,.string fd,.string fm,.slice (some ⟨gl,o,none⟩) n c] wr.heap.size #[.int .u64 (lj:Nat),.int .u64 (hj2:Nat)]) VD (fun _ _ h m=>h.bld m (by omega) hbw2) (fun _ h=>h.1.2.size) hX3 hB3 (by have:=HPl.out;simp only[List.length_append,q05];omega)).mono ?_;rintro e w4 ⟨rfl,hX4,hB4⟩;go_wp2_with fail;go_roundw
    case rel=>exact⟨j+1,by omega,by go_num,by rw[HSt3.out];simp only[←List.append_assoc]at hB4 ⊢;exact hB4,hX4.1⟩
    case measure=>simp[intOf];omega
  ·have hjn:n=j:=(by omega);subst hjn;obtain⟨p0,p1,p2,p3,p4,p5,p6,p7⟩:=HFc.out _ hX;have HX6:=q00 hX;have HB6:=q00 hB;clear hX hB;have k3:((2:Int)==3)=false:=(by decide);go_wp2_with fail;refine(qb1 _ w.heap.size (w.heap.size+1) _ HB6.out HX6.out.2.size).mono ?_;rintro e w5 ⟨rfl,st⟩;go_wp2_with fail;go_ret;refine⟨?_,st.mod HX6.out.2 (Nat.le_refl _)⟩;rw[HWay.out (HD.data.toList++ PB n) (by rw[HHl.out];simp only[List.append_assoc,List.append_nil])];rfl
theorem z99 (w:World) (A:Option Addr) (n c:Nat) (f:Fr) (hk:f.kind=3) (hr:Rngs w A n f.list) (hro:rngs f.list=true) (hm8:f.more.size=8):
  Calls Tryz.prog 156 #[q17 A n c f] w fun e w'=>e=.returned (str (qa9 f))∧Mod [] w w':=by
 unfold rngs at hro;simp only[Bool.and_eq_true,decide_eq_true_eq]at hro;obtain⟨hok,hl1,hl64⟩:=hro;have hall:=qk6 f.list none hok;have hln:=hr.1;obtain⟨gl,o,x1,rfl,hgl,x2,x3⟩:=hr.at_ (i:=0) (by omega);clear x2 x3 x1;have hcell:∀i,i < n→w.cell? ⟨gl,o+i * 2,none⟩=some (.int .u64 ((f.list.getD i (0,0)).1:Nat))∧w.cell? ⟨gl,o+i * 2+1,none⟩=some (.int .u64 ((f.list.getD i (0,0)).2:Nat)):=fun i hi=>(by obtain⟨g',o',hl,he,_,c0,c1⟩:=hr.at_ hi;cases he;rw[List.getD_eq_getElem?_getD,List.getElem?_eq_getElem hl];exact⟨c0,c1⟩);have hall2:∀i,i < n→(f.list.getD i (0,0)).1≤(f.list.getD i (0,0)).2∧(f.list.getD i (0,0)).2 < 4611686018427387904∧(0 < i→(f.list.getD i (0,0)).2+2≤(f.list.getD (i - 1) (0,0)).1):=fun i hi=>by have hl:i < f.list.length:=(by omega);have h:=hall i hl;rw[List.getD_eq_getElem?_getD,List.getElem?_eq_getElem hl];refine⟨h.1,h.2.1,fun h0=> ?_⟩;rw[List.getD_eq_getElem?_getD,List.getElem?_eq_getElem (by omega:i - 1 < f.list.length)];exact h.2.2 h0
 have hstep:∀j,qb0 f.list (j+1)=qb0 f.list j++ ((if 0 < j then q03 ((f.list.getD (j - 1) (0,0)).1 - (f.list.getD j (0,0)).2 - 2)else [])++ q03 ((f.list.getD j (0,0)).2 - (f.list.getD j (0,0)).1)):=fun j=>rfl;have hplen:=j61 f.list;have hway:∀R,R=q03 3++ (q03 (f.list.getD 0 (0,0)).2++ (q03 f.a++ (q03 (n - 1)++ (qb0 f.list n++ (q03 f.b++ (q03 f.c++ q03 (q52 0 f.more.data.toList)))))))→R=qa9 f:=fun R hR=>by
  rw[hR];unfold qa9;rw[if_neg (by omega),if_neg (by omega),if_neg (by omega)];unfold ji5;rw[←hln];cases hf:f.list with
  | nil=>rw[hf]at hl1;simp at hl1
  | cons r t=>rw[qy5];simp only[hk,List.append_assoc,List.length_cons,Nat.add_sub_cancel,List.getD_cons_zero];rfl
 obtain⟨lo,hlo⟩:∃lo:Nat→Nat,lo=fun i=>(f.list.getD i (0,0)).1:=⟨_,rfl⟩;obtain⟨hi,hhi⟩:∃hi:Nat→Nat,hi=fun i=>(f.list.getD i (0,0)).2:=⟨_,rfl⟩;obtain⟨PB,hPB⟩:∃PB:Nat→List UInt8,PB=qb0 f.list:=⟨_,rfl⟩;have hP0:PB 0= []:=(by rw[hPB];rfl);have HCell:Hid (∀i,i < n→w.cell? ⟨gl,o+i * 2,none⟩=some (.int .u64 (lo i:Nat))∧w.cell? ⟨gl,o+i * 2+1,none⟩=some (.int .u64 (hi i:Nat))):=q00 (by rw[hlo,hhi];exact hcell);have HAll:Hid (∀i,i < n→lo i≤hi i∧hi i < 4611686018427387904∧(0 < i→hi i+2≤lo (i - 1))):=q00 (by rw[hlo,hhi];exact hall2);have HStep:Hid (∀j,PB (j+1)=PB j++ ((if 0 < j then q03 (lo (j - 1) - hi j - 2)else [])++ q03 (hi j - lo j))):=q00 (by rw[hlo,hhi,hPB];exact hstep);have HPlen:Hid (∀j,(PB j).length≤16 * j):=q00 (by rw[hPB];exact hplen);have hway2:∀R,R=q03 3++ (q03 (hi 0)++ (q03 f.a++ (q03 (n - 1)++ (PB n++ (q03 f.b++ (q03 f.c++ q03 (q52 0 f.more.data.toList)))))))→R=qa9 f:=(by rw[hhi,hPB];exact hway);obtain⟨W,hW⟩:∃W,qa9 f=W:=⟨_,rfl⟩;rw[hW]at hway2 ⊢;have HWay:=q00 hway2;have hn64:n≤64:=(by omega);have hn1:1≤n:=(by omega);clear hway hway2 hstep hplen hall hall2 hcell hok hl1 hl64 hlo hhi hPB hW hr hln;unfold q17 fcs at *;obtain⟨fk,fa,fb,fc,ff,fd,fm,fl⟩:=f;dsimp only at *;subst hk;clear fl
 push_cast
 obtain⟨m,hm⟩:∃m,n=m+1:=⟨n - 1,by omega⟩;have e1:(n:Int) - 1=(m:Int):=(by omega);have hw1:IntKind.i64.wrap ((n:Int) - 1)=(m:Int):=(by rw[e1];exact IntWalk.i64_in _ (by omega));have hw2:IntKind.u64.wrap (m:Int)=(m:Int):=IntWalk.u64_in _ (by omega);have hw3:IntKind.i64.wrap (m:Int)=(m:Int):=IntWalk.i64_in _ (by omega);have hw4:IntKind.u64.wrap (IntKind.i64.wrap (m:Int))=(m:Int):=(by rw[hw3];exact hw2);have hm1:n - 1=m:=(by omega);have hn0:(0:Int) < (n:Int):=(by omega);have hnp:0 < n:=(by omega);rw[hm1]at HWay;obtain⟨K,hK⟩:∃K,q50 3=K:=⟨_,rfl⟩;obtain⟨h0,hh0⟩:∃h0,hi 0=h0:=⟨_,rfl⟩;obtain⟨VH,hH⟩:∃K,q50 h0=K:=⟨_,rfl⟩;obtain⟨VA,hA⟩:∃K,q50 fa=K:=⟨_,rfl⟩;obtain⟨VN,hN⟩:∃K,q50 m=K:=⟨_,rfl⟩;have s1:K.size≤8:=(by rw[←hK];exact q10 _);have s2:VH.size≤8:=(by rw[←hH];exact q10 _);have s3:VA.size≤8:=(by rw[←hA];exact q10 _);have s4:VN.size≤8:=(by rw[←hN];exact q10 _);have pp:∀(x:Int) (v:ByteArray),((x=3∧v=K)∨(x=(h0:Nat)∧v=VH)∨(x=(fa:Nat)∧v=VA)∨(x=(m:Nat)∧v=VN))→∀w,Calls Tryz.prog 157 #[.int .u64 x] w fun e w'=>e=.returned (.string v)∧Mod [] w w':=by
  rintro x v (⟨rfl,rfl⟩ | ⟨rfl,rfl⟩ | ⟨rfl,rfl⟩ | ⟨rfl,rfl⟩) w
  ·rw[←hK];exact q18 w 3
  ·rw[←hH];exact q18 w h0
  ·rw[←hA];exact q18 w fa
  ·rw[←hN];exact q18 w m
 have PP:=q00 pp;obtain⟨HD,hHD⟩:∃D:ByteArray,K++ VH++ VA++ VN=D:=⟨_,rfl⟩;have hHs:HD.size≤32:=(by rw[←hHD,ByteArray.size_append,ByteArray.size_append,ByteArray.size_append];omega);have hHl:HD.data.toList=q03 3++ (q03 h0++ (q03 fa++ q03 m)):=(by rw[←hHD,q20,q20,q20,←hK,←hH,←hA,←hN];simp[q60]);have HHl:=q00 hHl;have q1:¬9223372036854775807 < K.size+VH.size:=(by omega);have q2:¬9223372036854775807 < K.size+VH.size+VA.size:=(by omega);have q3:¬9223372036854775807 < K.size+VH.size+VA.size+VN.size:=(by omega);have c01:=(HCell.out 0 (by omega)).2;rw[hh0]at c01 HWay;simp only[Nat.zero_mul,Nat.add_zero]at c01;clear pp hHl hK hH hA hN hh0 hm;have k0:((3:Int)==0)=false:=(by decide);go_enter Tryz.func156,Tryz.ntmps156;go_wp2_with fail;obtain⟨w2,hw2w⟩:∃w2,(w.alloc (.cells #[.int .u64 3,.int .u64 (fa:Nat),.int .u64 (fb:Nat),.int .u64 (fc:Nat),.bool ff,.string fd,.string fm,.slice (some ⟨gl,o,none⟩) n c] 36)).alloc (.cells #[.pointer none,.slice none 0 0] 102)=w2:=⟨_,rfl⟩;have hX0:AX w w.heap.size #[.int .u64 3,.int .u64 (fa:Nat),.int .u64 (fb:Nat),.int .u64 (fc:Nat),.bool ff,.string fd,.string fm,.slice (some ⟨gl,o,none⟩) n c] w2:=(by rw[←hw2w];exact⟨(Blk.new _ _ _).alloc _,((Mod.refl _ _).alloc _).alloc _⟩);have hBl0:BldO w2 w.heap.size (w.heap.size+1) []:=(by rw[←hw2w];have:=Blk.new (w.alloc (.cells #[.int .u64 3,.int .u64 (fa:Nat),.int .u64 (fb:Nat),.int .u64 (fc:Nat),.bool ff,.string fd,.string fm,.slice (some ⟨gl,o,none⟩) n c] 36)) 102 #[.pointer none,.slice none 0 0];rw[World.size_alloc]at this;exact BldO.fresh this (by omega));rw[hw2w];have HXm:Hid (∀w' w'',AX w w.heap.size #[.int .u64 3,.int .u64 (fa:Nat),.int .u64 (fb:Nat),.int .u64 (fc:Nat),.bool ff,.string fd,.string fm,.slice (some ⟨gl,o,none⟩) n c] w'→Mod [] w' w''→AX w w.heap.size #[.int .u64 3,.int .u64 (fa:Nat),.int .u64 (fb:Nat),.int .u64 (fc:Nat),.bool ff,.string fd,.string fm,.slice (some ⟨gl,o,none⟩) n c] w''):=q00 (fun _ _ h m=>h.mod m);have HXb:Hid (∀w' w'',AX w w.heap.size #[.int .u64 3,.int .u64 (fa:Nat),.int .u64 (fb:Nat),.int .u64 (fc:Nat),.bool ff,.string fd,.string fm,.slice (some ⟨gl,o,none⟩) n c] w'→BStep w.heap.size (w.heap.size+1) w' w''→AX w w.heap.size #[.int .u64 3,.int .u64 (fa:Nat),.int .u64 (fb:Nat),.int .u64 (fc:Nat),.bool ff,.string fd,.string fm,.slice (some ⟨gl,o,none⟩) n c] w''):=q00 (fun _ _ h m=>h.bld m (by omega));have HXs:Hid (∀w',AX w w.heap.size #[.int .u64 3,.int .u64 (fa:Nat),.int .u64 (fb:Nat),.int .u64 (fc:Nat),.bool ff,.string fd,.string fm,.slice (some ⟨gl,o,none⟩) n c] w'→w.heap.size≤w'.heap.size):=q00 (fun _ h=>h.2.size);have HFc:Hid (∀w',AX w w.heap.size #[.int .u64 3,.int .u64 (fa:Nat),.int .u64 (fb:Nat),.int .u64 (fc:Nat),.bool ff,.string fd,.string fm,.slice (some ⟨gl,o,none⟩) n c] w'→w'.cell? ⟨w.heap.size,0,none⟩=some (.int .u64 3)∧w'.cell? ⟨w.heap.size,1,none⟩=some (.int .u64 (fa:Nat))∧w'.cell? ⟨w.heap.size,2,none⟩=some (.int .u64 (fb:Nat))∧w'.cell? ⟨w.heap.size,3,none⟩=some (.int .u64 (fc:Nat))∧w'.cell? ⟨w.heap.size,4,none⟩=some (.bool ff)∧w'.cell? ⟨w.heap.size,5,none⟩=some (.string fd)∧w'.cell? ⟨w.heap.size,6,none⟩=some (.string fm)∧w'.cell? ⟨w.heap.size,7,none⟩=some (.slice (some ⟨gl,o,none⟩) n c)):=q00 (fun w' h=>⟨h.1.cell 0,h.1.cell 1,h.1.cell 2,h.1.cell 3,h.1.cell 4,h.1.cell 5,h.1.cell 6,h.1.cell 7⟩);have HOld:Hid (∀w' (p:Addr) v,AX w w.heap.size #[.int .u64 3,.int .u64 (fa:Nat),.int .u64 (fb:Nat),.int .u64 (fc:Nat),.bool ff,.string fd,.string fm,.slice (some ⟨gl,o,none⟩) n c] w'→p.block < w.heap.size→w.cell? p=some v→w'.cell? p=some v):=q00 (fun w' p v h hp hc=>(h.2.cell hp (by simp)).trans hc);have HBd:=hBl0.mod (Mod.refl [] w2).drew (by simp);have hX1:=HXm.out _ _ hX0 (Mod.refl [] w2).drew;have HS:=q00 (And.intro (And.intro (HFc.out _ hX1) (HOld.out _ ⟨gl,o+1,none⟩ _ hX1 hgl c01)) hX1);have HC01:=q00 c01;have HGl:=q00 hgl;clear hw2w hX0 hBl0 hX1 c01 hgl;go_region_held3 (fun w'=>((w'.cell? ⟨w.heap.size,0,none⟩=some (.int .u64 3)∧w'.cell? ⟨w.heap.size,1,none⟩=some (.int .u64 (fa:Nat))∧w'.cell? ⟨w.heap.size,2,none⟩=some (.int .u64 (fb:Nat))∧w'.cell? ⟨w.heap.size,3,none⟩=some (.int .u64 (fc:Nat))∧w'.cell? ⟨w.heap.size,4,none⟩=some (.bool ff)∧w'.cell? ⟨w.heap.size,5,none⟩=some (.string fd)∧w'.cell? ⟨w.heap.size,6,none⟩=some (.string fm)∧w'.cell? ⟨w.heap.size,7,none⟩=some (.slice (some ⟨gl,o,none⟩) n c))∧w'.cell? ⟨gl,o+1,none⟩=some (.int .u64 (h0:Nat)))∧AX w w.heap.size #[.int .u64 3,.int .u64 (fa:Nat),.int .u64 (fb:Nat),.int .u64 (fc:Nat),.bool ff,.string fd,.string fm,.slice (some ⟨gl,o,none⟩) n c] w')
  (first | exact HS.out | assumption)
  (first
   | (go_at_call 157;refine(qh9 HXm.out (PP.out _ _ (by first | exact Or.inl ⟨rfl,rfl⟩ | exact Or.inr (Or.inl ⟨rfl,rfl⟩) | exact Or.inr (Or.inr (Or.inl ⟨rfl,rfl⟩)) | exact Or.inr (Or.inr (Or.inr ⟨by first | rfl | exact hw4 | exact e1 | exact hw1 | exact hw2 | (rw[hw1];exact hw2) | (rw[e1];exact hw2),rfl⟩)))) (And.right (by assumption)) (by assumption)).mono ?_;rintro e w' ⟨rfl,hX',hB'⟩;have hS':=And.intro (And.intro (HFc.out _ hX') (HOld.out _ ⟨gl,o+1,none⟩ _ hX' HGl.out HC01.out)) hX')
   | (go_at_call 80;refine(qf3 _ HXb.out HXs.out (And.right (by assumption)) (by assumption) (by first | (simp;omega) | omega)).mono ?_;rintro e w' ⟨rfl,hX',hB'⟩;have hS':=And.intro (And.intro (HFc.out _ hX') (HOld.out _ ⟨gl,o+1,none⟩ _ hX' HGl.out HC01.out)) hX'))
 rw[List.nil_append]at hB';obtain⟨p0,p1,p2,p3,p4,p5,p6,p7⟩:=HFc.out _ hX';have HX2:=q00 hX';have HB2:=q00 hB';clear hS' hX' hB' HS HBd PP;go_wp2_with fail;go_loopw [69] (fun iv wr=>∃j:Nat,j≤n∧iv=.int .i64 (j:Int)∧BldO wr w.heap.size (w.heap.size+1) (HD.data.toList++ PB j)∧AX w w.heap.size #[.int .u64 3,.int .u64 (fa:Nat),.int .u64 (fb:Nat),.int .u64 (fc:Nat),.bool ff,.string fd,.string fm,.slice (some ⟨gl,o,none⟩) n c] wr) (fun iv _=>n - (intOf iv).toNat)
 case atStart=>exact⟨0,by omega,rfl,by rw[hP0,List.append_nil];exact HB2.out,HX2.out⟩
 case round=>
  clear p0 p1 p2 p3 p4 p5 p6 p7 HX2 HB2;obtain⟨j,hj,rfl,hB,hX⟩:=hrel;by_cases h:j < n
  ·obtain⟨cl,ch⟩:=HCell.out j h;obtain⟨al1,al2,al3⟩:=HAll.out j h;have c0:=HOld.out wr ⟨gl,o+j * 2,none⟩ _ hX HGl.out cl;have c1:=HOld.out wr ⟨gl,o+j * 2+1,none⟩ _ hX HGl.out ch;have hst:=HStep.out j;have hpl:=HPlen.out j;obtain⟨lj,hlj⟩:∃x,lo j=x:=⟨_,rfl⟩;obtain⟨hj2,hhj⟩:∃x,hi j=x:=⟨_,rfl⟩;rw[hlj]at c0 al1 hst;rw[hhj]at c1 al1 al2 al3 hst;obtain⟨d,hd⟩:∃d,hj2 - lj=d:=⟨_,rfl⟩;rw[hd]at hst;have ed:(hj2:Int) - lj=(d:Int):=(by omega);have hwd:IntKind.u64.wrap ((hj2:Int) - lj)=(d:Int):=(by rw[ed];exact IntWalk.u64_in _ (by omega));have hwd2:IntKind.u64.wrap (d:Int)=(d:Int):=IntWalk.u64_in _ (by omega);obtain⟨VD,hVD⟩:∃K,q50 d=K:=⟨_,rfl⟩;have hvd:VD.size≤8:=(by rw[←hVD];exact q10 _);have hvl:VD.data.toList=q03 d:=(by rw[←hVD];rfl);rw[←hvl]at hst;have HPD:=q00 (fun w=>q18 w d);rw[hVD]at HPD;obtain⟨rs,hrs⟩:∃rs:Array Value,rs= #[.int .u64 (lj:Nat),.int .u64 (hj2:Nat)]:=⟨_,rfl⟩;have hXr:AXr w w.heap.size #[.int .u64 3,.int .u64 (fa:Nat),.int .u64 (fb:Nat),.int .u64 (fc:Nat),.bool ff,.string fd,.string fm,.slice (some ⟨gl,o,none⟩) n c] wr.heap.size rs (wr.alloc (.cells rs 77)):=⟨hX.mod ((Mod.refl _ _).alloc _),Blk.new _ _ _⟩;have hBr:=hB.mod ((Mod.refl [] wr).alloc (.cells rs 77)) (by simp);have hbw:=hB.lt;have hbw2:wr.heap.size≠w.heap.size+1:=(by omega);have r0:=hXr.2.cell 0;have r1:=hXr.2.cell 1;rw[hrs]at r0 r1 hXr hBr;have HXr:=q00 hXr;have HBr:=q00 hBr;have HSt:=q00 hst;have HPl:=q00 hpl;have HAl3:=q00 al3;have hrl:=hXr.2.lt;clear cl ch al3 hst hpl hlj hhj hd hVD hvl hXr hBr hrs hB;simp only[List.getElem?_toArray,List.getElem?_cons_succ,List.getElem?_cons_zero]at r0 r1;by_cases hj0:j=0
   ·subst hj0;simp only[Nat.zero_mul,Nat.add_zero]at c0 c1;go_wp2_with fail;refine(qh9 (X:=AXr w w.heap.size #[.int .u64 3,.int .u64 (fa:Nat),.int .u64 (fb:Nat),.int .u64 (fc:Nat),.bool ff,.string fd,.string fm,.slice (some ⟨gl,o,none⟩) n c] wr.heap.size #[.int .u64 (lj:Nat),.int .u64 (hj2:Nat)]) (fun _ _ h m=>h.mod m) HPD.out HXr.out HBr.out).mono ?_;rintro e w3 ⟨rfl,hX3,hB3⟩;go_wp2_with fail;refine(qf3 (X:=AXr w w.heap.size #[.int .u64 3,.int .u64 (fa:Nat),.int .u64 (fb:Nat),.int .u64 (fc:Nat),.bool ff,.string fd,.string fm,.slice (some ⟨gl,o,none⟩) n c] wr.heap.size #[.int .u64 (lj:Nat),.int .u64 (hj2:Nat)]) VD (fun _ _ h m=>h.bld m (by omega) hbw2) (fun _ h=>h.1.2.size) hX3 hB3 (by have:=HPl.out;simp only[List.length_append,q05];omega)).mono ?_;rintro e w4 ⟨rfl,hX4,hB4⟩;go_wp2_with fail;go_roundw
    case rel=>exact⟨0+1,by omega,by go_num,by rw[HSt.out,if_neg (by omega),List.nil_append,←List.append_assoc];exact hB4,hX4.1⟩
    case measure=>simp[intOf];omega
   ·have hjp:0 < j:=(by omega);obtain⟨jm,hjm⟩:∃jm,j - 1=jm:=⟨_,rfl⟩;obtain⟨cp,_⟩:=HCell.out (j - 1) (by omega);have al4:=HAl3.out hjp;obtain⟨ap1,ap2,_⟩:=HAll.out (j - 1) (by omega);have HSt2:=HSt.out;rw[hjm]at cp al4 ap1 ap2 HSt2;obtain⟨lp,hlp⟩:∃x,lo jm=x:=⟨_,rfl⟩;rw[hlp]at cp al4 ap1 HSt2;obtain⟨x,hx⟩:∃x,lp - hj2=x:=⟨_,rfl⟩;obtain⟨y,hy⟩:∃y,x - 2=y:=⟨_,rfl⟩;rw[if_pos hjp,hx,hy]at HSt2;have ex:(lp:Int) - hj2=(x:Int):=(by omega);have hwx:IntKind.u64.wrap ((lp:Int) - hj2)=(x:Int):=(by rw[ex];exact IntWalk.u64_in _ (by omega));have hwx2:IntKind.u64.wrap (x:Int)=(x:Int):=IntWalk.u64_in _ (by omega);have ey:(x:Int) - 2=(y:Int):=(by omega);have hwy:IntKind.u64.wrap ((x:Int) - 2)=(y:Int):=(by rw[ey];exact IntWalk.u64_in _ (by omega));have hwy2:IntKind.u64.wrap (y:Int)=(y:Int):=IntWalk.u64_in _ (by omega);obtain⟨VE,hVE⟩:∃K,q50 y=K:=⟨_,rfl⟩;have hve:VE.size≤8:=(by rw[←hVE];exact q10 _);have hvel:VE.data.toList=q03 y:=(by rw[←hVE];rfl);rw[←hvel]at HSt2;have HPE:=q00 (fun w=>q18 w y);rw[hVE]at HPE;have HSt3:=q00 HSt2;have HCp:=q00 cp;have f1:(j:Int) - 1=(jm:Int):=(by omega);have fw1:IntKind.i64.wrap ((j:Int) - 1)=(jm:Int):=(by rw[f1];exact IntWalk.i64_in _ (by omega));have fw2:IntKind.i64.wrap (jm:Int)=(jm:Int):=IntWalk.i64_in _ (by omega);have fj0:(0:Int)≤(jm:Int):=(by omega);have fjm:(jm:Int) < n:=(by omega);have fjn:jm < n:=(by omega);have fjd:decide ((0:Int) < j)=true:=decide_eq_true (by omega);have fje:decide (0 < j)=true:=decide_eq_true hjp;clear HSt HSt2 hlp hx hy hVE hvel cp hjm;go_wp2_with fail;clear r0 r1 c0 c1;have HFr:Hid (∀w',AXr w w.heap.size #[.int .u64 3,.int .u64 (fa:Nat),.int .u64 (fb:Nat),.int .u64 (fc:Nat),.bool ff,.string fd,.string fm,.slice (some ⟨gl,o,none⟩) n c] wr.heap.size #[.int .u64 (lj:Nat),.int .u64 (hj2:Nat)] w'→(w'.cell? ⟨w.heap.size,0,none⟩=some (.int .u64 3)∧w'.cell? ⟨w.heap.size,1,none⟩=some (.int .u64 (fa:Nat))∧w'.cell? ⟨w.heap.size,2,none⟩=some (.int .u64 (fb:Nat))∧w'.cell? ⟨w.heap.size,3,none⟩=some (.int .u64 (fc:Nat))∧w'.cell? ⟨w.heap.size,4,none⟩=some (.bool ff)∧w'.cell? ⟨w.heap.size,5,none⟩=some (.string fd)∧w'.cell? ⟨w.heap.size,6,none⟩=some (.string fm)∧w'.cell? ⟨w.heap.size,7,none⟩=some (.slice (some ⟨gl,o,none⟩) n c))∧w'.cell? ⟨gl,o+jm * 2,none⟩=some (.int .u64 (lp:Nat))∧w'.cell? ⟨wr.heap.size,0,none⟩=some (.int .u64 (lj:Nat))∧w'.cell? ⟨wr.heap.size,1,none⟩=some (.int .u64 (hj2:Nat))):=q00 (fun w' h=>⟨HFc.out _ h.1,HOld.out w' ⟨gl,o+jm * 2,none⟩ _ h.1 HGl.out HCp.out,h.2.cell 0,h.2.cell 1⟩);have HBd:=HBr.out.mod (Mod.refl [] (wr.alloc (.cells #[.int .u64 (lj:Nat),.int .u64 (hj2:Nat)] 77))).drew (by simp);have hX1:=HXr.out.mod (Mod.refl [] (wr.alloc (.cells #[.int .u64 (lj:Nat),.int .u64 (hj2:Nat)] 77))).drew;have HS:=q00 (And.intro (HFr.out _ hX1) hX1);clear hX1;go_region_held3 (fun w'=>((w'.cell? ⟨w.heap.size,0,none⟩=some (.int .u64 3)∧w'.cell? ⟨w.heap.size,1,none⟩=some (.int .u64 (fa:Nat))∧w'.cell? ⟨w.heap.size,2,none⟩=some (.int .u64 (fb:Nat))∧w'.cell? ⟨w.heap.size,3,none⟩=some (.int .u64 (fc:Nat))∧w'.cell? ⟨w.heap.size,4,none⟩=some (.bool ff)∧w'.cell? ⟨w.heap.size,5,none⟩=some (.string fd)∧w'.cell? ⟨w.heap.size,6,none⟩=some (.string fm)∧w'.cell? ⟨w.heap.size,7,none⟩=some (.slice (some ⟨gl,o,none⟩) n c))∧w'.cell? ⟨gl,o+jm * 2,none⟩=some (.int .u64 (lp:Nat))∧w'.cell? ⟨wr.heap.size,0,none⟩=some (.int .u64 (lj:Nat))∧w'.cell? ⟨wr.heap.size,1,none⟩=some (.int .u64 (hj2:Nat)))∧AXr w w.heap.size #[.int .u64 3,.int .u64 (fa:Nat),.int .u64 (fb:Nat),.int .u64 (fc:Nat),.bool ff,.string fd,.string fm,.slice (some ⟨gl,o,none⟩) n c] wr.heap.size #[.int .u64 (lj:Nat),.int .u64 (hj2:Nat)] w')
     (first | exact HS.out | assumption)
     (first
      | (go_at_call 157;refine(qh9 (X:=AXr w w.heap.size #[.int .u64 3,.int .u64 (fa:Nat),.int .u64 (fb:Nat),.int .u64 (fc:Nat),.bool ff,.string fd,.string fm,.slice (some ⟨gl,o,none⟩) n c] wr.heap.size #[.int .u64 (lj:Nat),.int .u64 (hj2:Nat)]) (fun _ _ h m=>h.mod m) HPE.out (And.right (by assumption)) (by assumption)).mono ?_;rintro e w' ⟨rfl,hX',hB'⟩;have hS':=And.intro (HFr.out _ hX') hX')
      | (go_at_call 80;refine(qf3 (X:=AXr w w.heap.size #[.int .u64 3,.int .u64 (fa:Nat),.int .u64 (fb:Nat),.int .u64 (fc:Nat),.bool ff,.string fd,.string fm,.slice (some ⟨gl,o,none⟩) n c] wr.heap.size #[.int .u64 (lj:Nat),.int .u64 (hj2:Nat)]) _ (fun _ _ h m=>h.bld m (by omega) hbw2) (fun _ h=>h.1.2.size) (And.right (by assumption)) (by assumption) (by have:=HPl.out;simp only[List.length_append,q05];omega)).mono ?_;rintro e w' ⟨rfl,hX',hB'⟩;have hS':=And.intro (HFr.out _ hX') hX'))
    obtain⟨_,_,r0,r1⟩:=HFr.out _ hX';have hbl:=hX'.2.lt;have HX5:=q00 hX';have HB5:=q00 hB';clear hX' hB' hS' HS HBd HFr;go_wp2_with fail;refine(qh9 (X:=AXr w w.heap.size #[.int .u64 3,.int .u64 (fa:Nat),.int .u64 (fb:Nat),.int .u64 (fc:Nat),.bool ff,.string fd,.string fm,.slice (some ⟨gl,o,none⟩) n c] wr.heap.size #[.int .u64 (lj:Nat),.int .u64 (hj2:Nat)]) (fun _ _ h m=>h.mod m) HPD.out HX5.out HB5.out).mono ?_;rintro e w3 ⟨rfl,hX3,hB3⟩;go_wp2_with fail;refine(qf3 (X:=AXr w w.heap.size #[.int .u64 3,.int .u64 (fa:Nat),.int .u64 (fb:Nat),.int .u64 (fc:Nat),.bool ff,.string fd,.string fm,.slice (some ⟨gl,o,none⟩) n c] wr.heap.size #[.int .u64 (lj:Nat),.int .u64 (hj2:Nat)]) VD (fun _ _ h m=>h.bld m (by omega) hbw2) (fun _ h=>h.1.2.size) hX3 hB3 (by have:=HPl.out;simp only[List.length_append,q05];omega)).mono ?_;rintro e w4 ⟨rfl,hX4,hB4⟩;go_wp2_with fail;go_roundw
    case rel=>exact⟨j+1,by omega,by go_num,by rw[HSt3.out];simp only[←List.append_assoc]at hB4 ⊢;exact hB4,hX4.1⟩
    case measure=>simp[intOf];omega
  ·have hjn:n=j:=(by omega);subst hjn;obtain⟨p0,p1,p2,p3,p4,p5,p6,p7⟩:=HFc.out _ hX;have HX6:=q00 hX;have HB6:=q00 hB;clear hX hB;have hnum:=fun w=>ja0 w fm (by omega);obtain⟨N,hN⟩:∃N,q52 0 fm.data.toList=N:=⟨_,rfl⟩;rw[hN]at hnum HWay;have HNum:=q00 hnum;obtain⟨VB,hB⟩:∃K,q50 fb=K:=⟨_,rfl⟩;obtain⟨VC,hC⟩:∃K,q50 fc=K:=⟨_,rfl⟩;obtain⟨VM,hM⟩:∃K,q50 N=K:=⟨_,rfl⟩;have t1:VB.size≤8:=(by rw[←hB];exact q10 _);have t2:VC.size≤8:=(by rw[←hC];exact q10 _);have t3:VM.size≤8:=(by rw[←hM];exact q10 _);have u1:¬9223372036854775807 < VB.size+VC.size:=(by omega);have u2:¬9223372036854775807 < VB.size+VC.size+VM.size:=(by omega);have pq:∀(x:Int) (v:ByteArray),((x=(fb:Nat)∧v=VB)∨(x=(fc:Nat)∧v=VC)∨(x=(N:Nat)∧v=VM))→∀w,Calls Tryz.prog 157 #[.int .u64 x] w fun e w'=>e=.returned (.string v)∧Mod [] w w':=by
    rintro x v (⟨rfl,rfl⟩ | ⟨rfl,rfl⟩ | ⟨rfl,rfl⟩) w
    ·rw[←hB];exact q18 w fb
    ·rw[←hC];exact q18 w fc
    ·rw[←hM];exact q18 w N
   have PQ:=q00 pq;obtain⟨TL,hTL⟩:∃D:ByteArray,VB++ VC++ VM=D:=⟨_,rfl⟩;have hTs:TL.size≤24:=(by rw[←hTL,ByteArray.size_append,ByteArray.size_append];omega);have hTl:TL.data.toList=q03 fb++ (q03 fc++ q03 N):=(by rw[←hTL,q20,q20,←hB,←hC,←hM];simp[q60]);have HTl:=q00 hTl;have HPl:=q00 (HPlen.out n);have HBd:=HB6.out.mod (Mod.refl [] wr).drew (by simp);have hX1:=HX6.out.mod (Mod.refl [] wr).drew;have HS:=q00 (And.intro (HFc.out _ hX1) hX1);clear hnum hN hB hC hM pq hTl hX1;go_wp2_with fail;clear p0 p1 p2 p3 p4 p5 p6 p7;go_region_held3 (fun w'=>(w'.cell? ⟨w.heap.size,0,none⟩=some (.int .u64 3)∧w'.cell? ⟨w.heap.size,1,none⟩=some (.int .u64 (fa:Nat))∧w'.cell? ⟨w.heap.size,2,none⟩=some (.int .u64 (fb:Nat))∧w'.cell? ⟨w.heap.size,3,none⟩=some (.int .u64 (fc:Nat))∧w'.cell? ⟨w.heap.size,4,none⟩=some (.bool ff)∧w'.cell? ⟨w.heap.size,5,none⟩=some (.string fd)∧w'.cell? ⟨w.heap.size,6,none⟩=some (.string fm)∧w'.cell? ⟨w.heap.size,7,none⟩=some (.slice (some ⟨gl,o,none⟩) n c))∧AX w w.heap.size #[.int .u64 3,.int .u64 (fa:Nat),.int .u64 (fb:Nat),.int .u64 (fc:Nat),.bool ff,.string fd,.string fm,.slice (some ⟨gl,o,none⟩) n c] w')
    (first | exact HS.out | assumption)
    (first
     | (go_at_call 163;refine(qh9 HXm.out HNum.out (And.right (by assumption)) (by assumption)).mono ?_;rintro e w' ⟨rfl,hX',hB'⟩;have hS':=And.intro (HFc.out _ hX') hX')
     | (go_at_call 157;refine(qh9 HXm.out (PQ.out _ _ (by first | exact Or.inl ⟨rfl,rfl⟩ | exact Or.inr (Or.inl ⟨rfl,rfl⟩) | exact Or.inr (Or.inr ⟨rfl,rfl⟩))) (And.right (by assumption)) (by assumption)).mono ?_;rintro e w' ⟨rfl,hX',hB'⟩;have hS':=And.intro (HFc.out _ hX') hX')
     | (go_at_call 80;refine(qf3 _ HXb.out HXs.out (And.right (by assumption)) (by assumption) (by have:=HPl.out;simp only[List.length_append,q05];omega)).mono ?_;rintro e w' ⟨rfl,hX',hB'⟩;have hS':=And.intro (HFc.out _ hX') hX'))
   have HX7:=q00 hX';have HB7:=q00 hB';clear hS' hX' hB' HBd HS;go_wp2_with fail;refine(qb1 _ w.heap.size (w.heap.size+1) _ HB7.out HX7.out.2.size).mono ?_;rintro e w5 ⟨rfl,st⟩;go_wp2_with fail;go_ret;refine⟨?_,st.mod HX7.out.2 (Nat.le_refl _)⟩;rw[HWay.out (HD.data.toList++ (PB n++ TL.data.toList)) (by rw[HHl.out,HTl.out];simp only[List.append_assoc])];rfl
theorem zr1 (w:World) (A:Option Addr) (n c:Nat) (f:Fr) (hr:Rngs w A n f.list) (hm:q31 f=true) (hs:q16 f.kind=none):
  Calls Tryz.prog 156 #[q17 A n c f] w fun e w'=>e=.returned (str (q15 f))∧Mod [] w w':=by
 obtain⟨_,_,_,hd,ho⟩:=q55 hm;have hb:q15 f=qa9 f:=(by unfold q15;rw[hs]);rw[hb];rw[hs]at ho;simp only at ho;unfold qa8 at ho;by_cases h0:f.kind=0
 ·rw[if_pos h0]at ho;simp only[Bool.and_eq_true,decide_eq_true_eq]at ho;exact zk9 w A n c f h0 (by omega)
 rw[if_neg h0]at ho;by_cases h2:f.kind=2∨f.kind=3
 ·rw[if_pos h2]at ho;unfold qv4 at ho;simp only[Bool.and_eq_true]at ho;obtain⟨h3,_,h5⟩:=ho;by_cases hk:f.kind=3
  ·rw[if_pos hk]at h3;simp only[Bool.and_eq_true,decide_eq_true_eq]at h3;exact z99 w A n c f hk hr h5 h3.1
  ·exact z98 w A n c f (by omega) hr h5
 rw[if_neg h2]at ho;by_cases h8:f.kind=8
 ·exact zl0 w A n c f h8 hd
 rw[if_neg h8]at ho;by_cases h24:f.kind=24
 ·rw[if_pos h24]at ho;simp only[Bool.and_eq_true,decide_eq_true_eq]at ho;exact zk8 w A n c f h24 (by omega) ho.2
 ·rw[if_neg h24]at ho;cases ho
theorem z63 (w:World) (A:Option Addr) (n c:Nat) (f:Fr):
  Calls Tryz.prog 121 #[q17 A n c f] w fun e w'=>e=.returned (.func (.func 155) #[] #[.pointer (some ⟨w.heap.size,0,none⟩)])∧w'=w.alloc (.cells (fcs A n c f) 36):=by
 unfold q17 fcs;go_enter Tryz.func121,Tryz.ntmps121;go_wp2_with fail;go_ret;exact⟨rfl,rfl⟩
end Go.Proofs.YtlfjhgamlkbofaaGreatDoor
namespace Go.Proofs.YtlfjhgamlkbofaaGreatDoor
open Go.RowKit Go.Shelf
def KpB (A B:World):Prop:=A.heap.size≤B.heap.size∧∀g t cs,t≠5→t≠102→Blk A g t cs→Blk B g t cs
abbrev Pc:= { s:ByteArray // s.size≤17000 }
def cat (ss:List Pc):List UInt8:=(ss.map fun s=>s.1.data.toList).flatten
theorem Mod.grows {w w':World} (h:Mod [] w w'):w.grownBy w' none:=
 ⟨h.os,h.tape,h.output,h.size,fun k hk _=>h.block k hk (by simp)⟩
theorem z45 (k l:Nat) (W:World) (J Jx:List Pc→World→Prop) (Bx:Nat) (A:Option Addr) (n c:Nat) (f:Fr) (hb:Blk W Bx 36 (fcs A n c f)) (hr:Rngs W A n f.list) (hm:q31 f=true) (hs:q16 f.kind=none)
  (hJ:AbidesFrom W.heap.size J)
  (hY:∀pre (x:Pc) W1,J pre W1→pre.length < 5→YieldAt Fence.wide (k - 1) Tryz.prog l #[.string x.1] W1 fun e W'=>(e=.returned (.bool true)∧J (pre++ [x]) W'∧KpB W1 W')∨(e=.returned (.bool false)∧Jx (pre++ [x]) W')) (h0:J [] W):
  CallsIn Fence.wide k Tryz.prog 155 #[.func (.yield l) #[] #[],.pointer (some ⟨Bx,0,none⟩)] W fun e W'=>(∃v,e=.returned v)∧
   ((∃ss,cat ss=q15 f∧J ss W')∨(∃pre,True∧Jx pre W')):=by
 have HSh:=q00 (fun w=>qb7 w f.kind);have HWay:=q00 (fun w (h:Rngs w A n f.list)=>zr1 w A n c f h hm hs);have hS:shS f.kind=sh0:=(by unfold shS;rw[hs];rfl);rw[hS,hs]at HSh;have HB:=q00 hb;have HR:=q00 hr;have H0:=q00 h0;have HJ:=q00 hJ;have HY:=q00 hY;obtain⟨p0,p1,p2,p3,p4,p5,p6,p7⟩:=q23 hb;obtain⟨D,hD⟩:∃D:ByteArray,(⟨(q15 f).toArray⟩:ByteArray)=D:=⟨_,rfl⟩;have hDs:D.size≤17000:=(by rw[←hD];exact qu0 hm);have hcat:cat [⟨D,hDs⟩]=q15 f:=(by unfold cat;simp[←hD]);have hstr:str (q15 f)=.string D:=(by rw[←hD];rfl);rw[hstr]at HWay;have HCat:=q00 hcat;clear hb hr hm hs h0 hS hJ hY hD hcat hstr;unfold q17 fcs at *;refine callsIn_of_wp Tryz.func155 rfl trivial ?_ rfl;simp only[Tryz.ntmps155,List.size_toArray,List.length_cons,List.length_nil,Nat.reduceAdd,Nat.reduceSub,Array.replicate_succ,Array.replicate_zero,List.push_toArray,List.append_toArray,List.nil_append,List.cons_append]
 gi_wp2
 refine⟨trivial,fun h=>(by cases h),(callsIn_wide.2 (HSh.out _)).mono ?_⟩;rintro e w1 ⟨rfl,m1⟩;have hm2:Mod [] W (w1.alloc (.cells #[.int .i64 0,.bool false,.int .i64 0] 109)):=m1.alloc _;have hbx:=hm2.blk HB.out (by simp);obtain⟨p0,p1,p2,p3,p4,p5,p6,p7⟩:=q23 hbx;have hlt:=hbx.lt;have HM2:=q00 hm2;have HR2:=q00 (HR.out.new hm2);clear hm2 hbx m1;unfold qm9 sh0
 gi_wp2
 refine⟨trivial,fun h=>(by cases h),(callsIn_wide.2 (HWay.out _ HR2.out)).mono ?_⟩;rintro e w3 ⟨rfl,m3⟩;have hm3:=HM2.out.trans m3 (by simp);obtain⟨fn,tmps,assign,body,hy,hR⟩:=HY.out [] ⟨D,hDs⟩ w3 (HJ.out [] W w3 none H0.out hm3.grows (fun r e=>by cases e)) (by simp);dsimp only at hy
 gi_wp2
 refine⟨fun h=>(by cases h),hR.mono ?_⟩;rintro e W3 (⟨rfl,hJ3,_⟩ | ⟨rfl,hJx3⟩)
 ·gi_wp2
  refine bodyPost_ret (results_none rfl _ _ _) rfl ?_;exact⟨⟨_,rfl⟩,.inl ⟨[⟨D,hDs⟩],HCat.out,hJ3⟩⟩
 ·gi_wp2
  refine bodyPost_ret (results_none rfl _ _ _) rfl ?_;exact⟨⟨_,rfl⟩,.inr ⟨[⟨D,hDs⟩],trivial,hJx3⟩⟩
def jt8 (f:Fr) (i:Nat):Nat:= [f.a,f.b,f.c].getD i 0
def j49 (n:Nat):Pc:=⟨q50 n,Nat.le_trans (q10 n) (by omega)⟩
def qm1 (f:Fr) (j:Nat):List Pc:=j49 f.kind ::(List.range j).map fun i=>j49 (jt8 f i)
theorem z92 (f:Fr) (j:Nat):qm1 f (j+1)=qm1 f j++ [j49 (jt8 f j)]:=by unfold qm1;rw[List.range_succ,List.map_append];rfl
theorem jc6 (f:Fr) (j:Nat):(qm1 f j).length=j+1:=by simp[qm1]
theorem ji (a b:List Pc):cat (a++ b)=cat a++ cat b:=by unfold cat;simp
theorem ji0 (s:Pc):cat [s]=s.1.data.toList:=by unfold cat;simp
theorem zj8 (f:Fr):∀j,j≤3→cat (qm1 f j)=q03 f.kind++ qc5 j f
 | 0,_=>by simp[qm1,cat,qc5,q60,j49]
 | 1,_=>by simp[qm1,cat,qc5,q60,j49,jt8]
 | 2,_=>by simp[qm1,cat,qc5,q60,j49,jt8,List.range_succ]
 | 3,_=>by simp[qm1,cat,qc5,q60,j49,jt8,List.range_succ]
 | k+4,h=>by omega
theorem z47 (k l:Nat) (W:World) (J Jx:List Pc→World→Prop) (Bx:Nat) (A:Option Addr) (n c:Nat) (f:Fr) (hb:Blk W Bx 36 (fcs A n c f)) (s:Shp) (hm:q31 f=true) (hs:q16 f.kind=some s)
  (hJ:AbidesFrom W.heap.size J)
  (hY:∀pre (x:Pc) W1,J pre W1→pre.length < 5→YieldAt Fence.wide (k - 1) Tryz.prog l #[.string x.1] W1 fun e W'=>(e=.returned (.bool true)∧J (pre++ [x]) W'∧KpB W1 W')∨(e=.returned (.bool false)∧Jx (pre++ [x]) W')) (h0:J [] W):
  CallsIn Fence.wide k Tryz.prog 155 #[.func (.yield l) #[] #[],.pointer (some ⟨Bx,0,none⟩)] W fun e W'=>(∃v,e=.returned v)∧
   ((∃ss,cat ss=q15 f∧J ss W')∨(∃pre,True∧Jx pre W')):=by
 have HSh:=q00 (fun w=>qb7 w f.kind);have hS:shS f.kind=s:=(by unfold shS;rw[hs];rfl);have hby:∀ss,cat ss=cat (qm1 f s.n)++ qm7 s f→cat ss=q15 f:=fun ss h=>(by rw[h,zj8 f s.n (q77 hs).2.1];unfold q15;rw[hs];simp only[List.append_assoc]);have hsn:=(q77 hs).2.1;have hdz:=(q55 hm).2.2.2.1;have hdd:f.data.size≤17000:=(by omega);have htd:(q50 f.data.size++ f.data).size≤17000:=(by rw[ByteArray.size_append];have:=q10 f.data.size;omega);rw[hS,hs]at HSh;have HTx:=q00 (fun w=>qo7 w f.data (by omega));have HB:=q00 hb;have H0:=q00 h0;have HJ:=q00 hJ;have HY:=q00 hY;have HBy:=q00 hby
 obtain⟨p0,p1,p2,p3,p4,p5,p6,p7⟩:=q23 hb;clear hb hm hs h0 hS hJ hY hby
 refine callsIn_of_wp Tryz.func155 rfl trivial ?_ rfl;simp only[Tryz.ntmps155,List.size_toArray,List.length_cons,List.length_nil,Nat.reduceAdd,Nat.reduceSub,Array.replicate_succ,Array.replicate_zero,List.push_toArray,List.append_toArray,List.nil_append,List.cons_append]
 gi_wp2
 refine⟨trivial,fun h=>(by cases h),(callsIn_wide.2 (HSh.out _)).mono ?_⟩;rintro e w1 ⟨rfl,m1⟩;unfold qm9;have hm2:Mod [] W (w1.alloc (.cells #[.int .i64 (s.n:Nat),.bool s.t,.int .i64 (s.x:Nat)] 109)):=m1.alloc _;have hbx:=hm2.blk HB.out (by simp);have hsb:Blk (w1.alloc (.cells #[.int .i64 (s.n:Nat),.bool s.t,.int .i64 (s.x:Nat)] 109)) w1.heap.size 109 #[.int .i64 (s.n:Nat),.bool s.t,.int .i64 (s.x:Nat)]:=Blk.new _ _ _;have HBx:=q00 hbx;have HSb:=q00 hsb;clear p0 p1 p2 p3 p4 p5 p6 p7;obtain⟨p0,p1,p2,p3,p4,p5,p6,p7⟩:=q23 hbx;have HM2:=q00 hm2;have hlt:=hbx.lt;clear hm2 hbx hsb m1
 gi_wp2
 refine⟨trivial,fun h=>(by cases h),(callsIn_wide.2 (q18 _ f.kind)).mono ?_⟩;rintro e w3 ⟨rfl,m3⟩;have hm3:=HM2.out.trans m3 (by simp);have HBx3:=q00 (m3.blk HBx.out (by simp));have HSb3:=q00 (m3.blk HSb.out (by simp));obtain⟨fn,tmps,assign,body,hy,hR⟩:=HY.out [] (j49 f.kind) w3 (HJ.out [] W w3 none H0.out hm3.grows (fun r e=>by cases e)) (by simp);simp only[j49]at hy
 gi_wp2
 refine⟨fun h=>(by cases h),hR.mono ?_⟩;rintro e w4 (⟨rfl,hJ4,hk4⟩ | ⟨rfl,hJx4⟩);rotate_left
 ·gi_wp2
  refine bodyPost_ret (results_none rfl _ _ _) rfl ?_;exact⟨⟨_,rfl⟩,.inr ⟨_,trivial,hJx4⟩⟩
 ·have hbx:=hk4.2 _ _ _ (by decide) (by decide) HBx3.out;have hsb:=hk4.2 _ _ _ (by decide) (by decide) HSb3.out;clear p0 p1 p2 p3 p4 p5 p6 p7 hy hR;obtain⟨p0,p1,p2,p3,p4,p5,p6,p7⟩:=q23 hbx;have s0:=hsb.cell 0;simp only[List.getElem?_toArray,List.getElem?_cons_zero]at s0;have l1:=hbx.lt;have l2:=hsb.lt;have b1:(0:Int)≤(s.n:Int):=(by omega);have b2:(s.n:Int)≤3:=(by omega);have hx5:Blk (w4.alloc (.cells #[.int .u64 (f.a:Nat),.int .u64 (f.b:Nat),.int .u64 (f.c:Nat)] 33)) w4.heap.size 33 #[.int .u64 (f.a:Nat),.int .u64 (f.b:Nat),.int .u64 (f.c:Nat)]:=Blk.new _ _ _;have HX5:=q00 hx5;have HBx5:=q00 (hbx.alloc (.cells #[.int .u64 (f.a:Nat),.int .u64 (f.b:Nat),.int .u64 (f.c:Nat)] 33));have HSb5:=q00 (hsb.alloc (.cells #[.int .u64 (f.a:Nat),.int .u64 (f.b:Nat),.int .u64 (f.c:Nat)] 33));have hwl:W.heap.size≤w4.heap.size:=Nat.le_trans hm3.size hk4.1;have HJ5:=q00 (HJ.out _ _ _ none hJ4 ((Mod.refl [] w4).alloc (.cells #[.int .u64 (f.a:Nat),.int .u64 (f.b:Nat),.int .u64 (f.c:Nat)] 33)).grows (fun r e=>by cases e));clear hx5 hbx hsb hJ4 hk4 hm3 m3 HBx HSb HBx3 HSb3 HM2 HB H0 HSh
  gi_wp2
  gi_loopw [36] (fun iv wr=>∃j:Nat,j≤s.n∧iv=.int .i64 (j:Int)∧J (qm1 f j) wr∧Blk wr Bx 36 (fcs A n c f)∧Blk wr w1.heap.size 109 #[.int .i64 (s.n:Nat),.bool s.t,.int .i64 (s.x:Nat)]∧Blk wr w4.heap.size 33 #[.int .u64 (f.a:Nat),.int .u64 (f.b:Nat),.int .u64 (f.c:Nat)]) (fun iv _=>s.n - (intOf iv).toNat)
  case atStart=>exact⟨0,by omega,rfl,HJ5.out,HBx5.out,HSb5.out,HX5.out⟩
  case round=>
   clear p0 p1 p2 p3 p4 p5 p6 p7 s0 l1 l2;obtain⟨j,hj,rfl,hJr,hB,hSb,hX⟩:=hrel;by_cases h:j < s.n
   ·have c0:wr.cell? ⟨w4.heap.size,j,none⟩=some (.int .u64 (jt8 f j:Nat)):=(by rw[hX.cell j];have:j=0∨j=1∨j=2:=(by omega);rcases this with rfl | rfl | rfl <;> rfl);have HBr:=q00 hB;have HSr:=q00 hSb;have HXr:=q00 hX;have HJr:=q00 hJr;obtain⟨x,hx⟩:∃x,jt8 f j=x:=⟨_,rfl⟩;rw[hx]at c0;have hsx:qm1 f (j+1)=qm1 f j++ [j49 x]:=(by rw[z92,hx]);have HSx:=q00 hsx;clear hB hSb hX hJr hx hsx
    gi_wp2
    refine⟨trivial,fun h=>(by cases h),(callsIn_wide.2 (q18 _ x)).mono ?_⟩;rintro e w6 ⟨rfl,m6⟩;have HB6:=q00 (m6.blk HBr.out (by simp));have HS6:=q00 (m6.blk HSr.out (by simp));have HX6:=q00 (m6.blk HXr.out (by simp));obtain⟨fn,tmps,assign,body,hy,hR⟩:=HY.out (qm1 f j) (j49 x) w6 (HJ.out _ _ _ none HJr.out m6.grows (fun r e=>by cases e)) (by rw[jc6];omega);simp only[j49]at hy
    gi_wp2
    refine⟨fun h=>(by cases h),hR.mono ?_⟩;rintro e w7 (⟨rfl,hJ7,hk7⟩ | ⟨rfl,hJx7⟩)
    ·gi_wp2
     go_roundw
     case rel=>exact⟨j+1,by omega,by go_num,by rw[HSx.out];exact hJ7,hk7.2 _ _ _ (by decide) (by decide) HB6.out,hk7.2 _ _ _ (by decide) (by decide) HS6.out,hk7.2 _ _ _ (by decide) (by decide) HX6.out⟩
     case measure=>simp[intOf];omega
    ·gi_wp2
     refine bodyPost_ret (results_none rfl _ _ _) rfl ?_;exact⟨⟨_,rfl⟩,.inr ⟨_,trivial,hJx7⟩⟩
   ·have hjn:s.n=j:=(by omega);have hbn:cat (qm1 f j)=cat (qm1 f s.n):=(by rw[hjn]);obtain⟨p0,p1,p2,p3,p4,p5,p6,p7⟩:=q23 hB;have s1:wr.cell? ⟨w1.heap.size,1,none⟩=some (.bool s.t):=hSb.cell 1;have s2:wr.cell? ⟨w1.heap.size,2,none⟩=some (.int .i64 (s.x:Nat)):=hSb.cell 2;have l1:=hB.lt;have l2:=hSb.lt;have HJr:=q00 hJr;have HBn:=q00 hbn;clear hB hSb hX hJr hbn p0 p1 p2 p3 p4 p6 p7;cases ht:s.t
    ·rw[ht]at s1;by_cases hx:0 < s.x
     ·have d1:decide ((0:Int) < s.x)=true:=decide_eq_true (by omega);have d2:decide (0 < s.x)=true:=decide_eq_true hx;have hfin:cat (qm1 f j++ [⟨f.data,hdd⟩])=q15 f:=(by refine HBy.out _ ?_;rw[ji,HBn.out,ji0];unfold qm7;rw[ht,if_neg (by simp),if_pos hx]);have HF:=q00 hfin;clear hfin ht;obtain⟨fn,tmps,assign,body,hy,hR⟩:=HY.out (qm1 f j) ⟨f.data,hdd⟩ wr HJr.out (by rw[jc6];omega);dsimp only at hy
      gi_wp2
      refine⟨fun h=>(by cases h),hR.mono ?_⟩;rintro e w7 (⟨rfl,hJ7,_⟩ | ⟨rfl,hJx7⟩)
      ·gi_wp2
       go_end0;exact⟨⟨_,rfl⟩,.inl ⟨_,HF.out,hJ7⟩⟩
      ·gi_wp2
       go_end0;exact⟨⟨_,rfl⟩,.inr ⟨_,trivial,hJx7⟩⟩
     ·have d1:decide ((0:Int) < s.x)=false:=decide_eq_false (by omega);have d2:decide (0 < s.x)=false:=decide_eq_false hx;have hfin:cat (qm1 f j)=q15 f:=(by refine HBy.out _ ?_;rw[HBn.out];unfold qm7;rw[ht,if_neg (by simp),if_neg hx,List.append_nil]);have HF:=q00 hfin;clear hfin ht
      gi_wp2
      go_end0;exact⟨⟨_,rfl⟩,.inl ⟨_,HF.out,HJr.out⟩⟩
    ·rw[ht]at s1;have hfin:cat (qm1 f j++ [⟨q50 f.data.size++ f.data,htd⟩])=q15 f:=(by refine HBy.out _ ?_;rw[ji,HBn.out,ji0];unfold qm7 qf6;rw[ht,if_pos rfl,q20,q60]);have HF:=q00 hfin;clear hfin ht
     gi_wp2
     refine⟨trivial,fun h=>(by cases h),(callsIn_wide.2 (HTx.out _)).mono ?_⟩;rintro e w6 ⟨rfl,m6⟩;obtain⟨fn,tmps,assign,body,hy,hR⟩:=HY.out (qm1 f j) ⟨q50 f.data.size++ f.data,htd⟩ w6 (HJ.out _ _ _ none HJr.out m6.grows (fun r e=>by cases e)) (by rw[jc6];omega);dsimp only at hy
     gi_wp2
     refine⟨fun h=>(by cases h),hR.mono ?_⟩;rintro e w7 (⟨rfl,hJ7,_⟩ | ⟨rfl,hJx7⟩)
     ·gi_wp2
      go_end0;exact⟨⟨_,rfl⟩,.inl ⟨_,HF.out,hJ7⟩⟩
     ·gi_wp2
      go_end0;exact⟨⟨_,rfl⟩,.inr ⟨_,trivial,hJx7⟩⟩
theorem jp7 (k:Nat) (Bx:Nat) (A:Option Addr) (n c:Nat) (f:Fr) (w:World) (hb:Blk w Bx 36 (fcs A n c f)) (hr:Rngs w A n f.list) (hm:q31 f=true):
  SeqStopsK Fence.wide k Tryz.prog 155 #[.pointer (some ⟨Bx,0,none⟩)] (fun s:Pc=> #[Value.string s.1]) KpB (fun ss=>cat ss=q15 f) (fun _=>True) 5 w:=fun l J Jx W hW hJ _ hY h0=>by
 have hmod:Mod [] w W:=⟨hW.os,hW.tape,hW.output,hW.size,fun k hk _=>hW.block k hk⟩;cases hs:q16 f.kind with
 | none=>exact z45 k l W J Jx Bx A n c f (hmod.blk hb (by simp)) (hr.new hmod) hm hs hJ hY h0
 | some s=>exact z47 k l W J Jx Bx A n c f (hmod.blk hb (by simp)) s hm hs hJ hY h0
theorem KpB.trans {A B C:World} (h:KpB A B) (k:KpB B C):KpB A C:=⟨Nat.le_trans h.1 k.1,fun g t cs h1 h2 h3=>k.2 g t cs h1 h2 (h.2 g t cs h1 h2 h3)⟩
theorem KpB.put {W:World} {l:Nat} {o o':Obj} (h:W.heap[l]? =some o) (hc:o.isCells=false):KpB W (W.putObj l o'):=by have hg:=grownBy_putObj' W l o';refine⟨hg.size,fun g t cs _ _ hb=> ?_⟩;have hgl:g≠l:=fun e=>(by subst e;have:W.heap[g]? =some (.cells cs t):=hb;rw[h]at this;cases this;simp[Obj.isCells]at hc);exact(hg.block g hb.lt (fun e=>hgl (Option.some.inj e))).trans hb
theorem jy (w:World) (A:Option Addr) (n c:Nat) (f:Fr) (hr:Rngs w A n f.list) (hm:q31 f=false):
  Calls Tryz.prog 83 #[q17 A n c f] w fun e w'=>e=.returned (.tuple #[.string ⟨#[]⟩,.int .i64 2])∧Mod [] w w':=by
 have HMay:=q00 (fun w' (h:Rngs w' A n f.list)=>qu7 w' A n c f h false hm);have HR:=q00 (hr.new ((Mod.refl [] w).alloc (.cells (fcs A n c f) 36)));clear hr hm;unfold q17 fcs at *;go_enter Tryz.func83,Tryz.ntmps83;go_wp2_with fail;refine(HMay.out _ HR.out).mono ?_;rintro e w1 ⟨rfl,m1⟩;go_wp2_with fail;go_ret2;exact⟨rfl,((Mod.refl _ _).alloc _).trans m1 (by simp)⟩
attribute [local go_sem] Oper.semAt_some
def WI (w:World) (b:Nat) (pre:List Pc) (W:World):Prop:=BldO W w.heap.size b (cat pre)∧(cat pre).length≤17000 * pre.length∧Mod [] w W
theorem WI.own (w:World) (b B:Nat) (hB:w.heap.size≤B):OwnFrom B (WI w b):=fun pre W W' row hI hg hr=>by
 have hm:Mod (row.toList) W W':=⟨hg.os,hg.tape,hg.output,hg.size,fun k hk hn=>hg.block k hk (fun e=>hn (by rw[←e];simp))⟩;refine⟨hI.1.mod hm ?_,hI.2.1,⟨hm.os.trans hI.2.2.os,hm.tape.trans hI.2.2.tape,hm.output.trans hI.2.2.output,Nat.le_trans hI.2.2.size hm.size,fun k hk _=> ?_⟩⟩
 ·intro g hg2;have hrow:row=some g:=(by simpa using hg2);obtain⟨_,o,ho,hc⟩:=hr g hrow;obtain⟨cs,hb⟩:=hI.1.blk;refine⟨fun e=> ?_,fun cs fz h=> ?_⟩
  ·subst e;have:W.heap[g]? =some (.cells cs 102):=hb;rw[ho]at this;cases this;simp[Obj.isCells]at hc
  ·rw[ho]at h;cases h;simp[Obj.isCells]at hc
 ·refine(hm.block k (Nat.lt_of_lt_of_le hk hI.2.2.size) (fun hf=> ?_)).trans (hI.2.2.block k hk (by simp));have hrow:row=some k:=(by simpa using hf);have:=(hr k hrow).1;omega
theorem jy0 (w:World) (A:Option Addr) (n c:Nat) (f:Fr) (hr:Rngs w A n f.list) (hm:q31 f=true):
  Calls Tryz.prog 83 #[q17 A n c f] w fun e w'=>e=.returned (.tuple #[str (q15 f),.int .i64 0])∧Mod [] w w':=by
 have HMay:=q00 (fun w' (h:Rngs w' A n f.list)=>qu7 w' A n c f h true hm);have HR:=q00 (hr.new ((Mod.refl [] w).alloc (.cells (fcs A n c f) 36)));have HB:=q00 (Blk.new w 36 (fcs A n c f));have HPs:=q00 (fun w=>z63 w A n c f);refine(callsIn_wide (n:=4)).1 ?_;refine callsIn_of_wp_marks Tryz.func83 rfl trivial ?_ rfl;simp only[Tryz.ntmps83,List.size_toArray,List.length_cons,List.length_nil,Nat.reduceAdd,Nat.reduceSub,Array.replicate_succ,Array.replicate_zero,List.push_toArray,List.append_toArray,List.nil_append,List.cons_append];unfold q17 fcs at *
 gi_wp2
 refine⟨trivial,(callsIn_wide.2 (HMay.out _ HR.out)).mono ?_⟩;rintro e w1 ⟨rfl,m1⟩;have hbx:=(m1.blk HB.out (by simp)).alloc (.cells #[.pointer none,.slice none 0 0] 102);obtain⟨p0,p1,p2,p3,p4,p5,p6,p7⟩:=q23 hbx;have hlt:=hbx.lt
 gi_wp2
 refine⟨trivial,(callsIn_wide.2 (HPs.out _)).mono ?_⟩;rintro e w2 ⟨rfl,rfl⟩;have hm2:Mod [] w (w1.alloc (.cells #[.pointer none,.slice none 0 0] 102)):=(((Mod.refl [] w).alloc _).trans m1 (by simp)).alloc _;have hwl:w.heap.size≤w1.heap.size:=by have:=((Mod.refl [] w).alloc (.cells (fcs A n c f) 36)).trans m1 (by simp);exact this.size
 have hB0:BldO (w1.alloc (.cells #[.pointer none,.slice none 0 0] 102)) w.heap.size w1.heap.size []:=BldO.fresh (Blk.new _ _ _) hwl;have hfb:Blk ((w1.alloc (.cells #[.pointer none,.slice none 0 0] 102)).alloc (.cells (fcs A n c f) 36)) (w1.heap.size+1) 36 (fcs A n c f):=by have:=Blk.new (w1.alloc (.cells #[.pointer none,.slice none 0 0] 102)) 36 (fcs A n c f);rw[World.size_alloc]at this;exact this
 have hrr:=hr.new (hm2.alloc (.cells (fcs A n c f) 36));have hst:=jp7 3 (w1.heap.size+1) A n c f _ hfb hrr hm;have hW0:WI w w1.heap.size [] ((w1.alloc (.cells #[.pointer none,.slice none 0 0] 102)).alloc (.cells (fcs A n c f) 36)):=⟨hB0.mod ((Mod.refl [] _).alloc _) (by simp),by simp[cat],hm2.alloc _⟩;unfold fcs at hst hW0
 gi_wp2
 refine wpIn_rangeFunc_ownG rfl (by omega) (gf:=155) (lb:= #[.pointer (some ⟨w1.heap.size+1,0,none⟩)]) rfl trivial (enters_of Tryz.func155 (by kernel_rfl) rfl) hst KpB.trans (fun W l o o' _ h1 h2 _=>KpB.put h1 h2) (Below.refl _ _) (fun _=>rfl)
  (WI w w1.heap.size) (fun _ _ _=>False) (WI.own w w1.heap.size _ (by simp only[World.size_alloc];omega)) (fun _ _ _ _ _ hs _ _=>hs) hW0
  (fun x=> { tmps:= #[.agg #[.int .u64 (f.kind:Nat),.int .u64 (f.a:Nat),.int .u64 (f.b:Nat),.int .u64 (f.c:Nat),.bool f.fin,.string f.data,.string f.more,.slice A n c],.pointer (some ⟨w.heap.size,0,none⟩),.string ⟨#[]⟩,.int .i64 0,.pointer (some ⟨w1.heap.size,0,none⟩),.string x.1,.agg #[.int .u64 (f.kind:Nat),.int .u64 (f.a:Nat),.int .u64 (f.b:Nat),.int .u64 (f.c:Nat),.bool f.fin,.string f.data,.string f.more,.slice A n c],.bool true,.bool false,.agg #[.int .u64 (f.kind:Nat),.int .u64 (f.a:Nat),.int .u64 (f.b:Nat),.int .u64 (f.c:Nat),.bool f.fin,.string f.data,.string f.more,.slice A n c],.func (.func 155) #[] #[.pointer (some ⟨w1.heap.size+1,0,none⟩)],.string x.1,undef,undef,undef],defers:= [] }) ?assign ?body ?done ?stop
 case assign=>
  intro l x W K hK
  gi_wp2
  exact hK
 case body=>
  rintro l pre x W ⟨hb1,hb2,hb3⟩ hlt
  gi_wp2
  have hxs:=x.2;refine⟨trivial,(CallsIn.inRound l (callsIn_wide.2 (q54 W w.heap.size w1.heap.size (cat pre) x.1 hb1 (by omega) hb3.size))).mono ?_⟩;rintro e w6 ⟨rfl,h1,h2⟩;have hc:cat (pre++ [x])=cat pre++ x.1.data.toList:=(by rw[ji,ji0]);have hwi:WI w w1.heap.size (pre++ [x]) w6:=⟨by rw[hc];exact h1,by rw[hc,List.length_append,List.length_append,q05];simp only[List.length_cons,List.length_nil];omega,h2.mod hb3 (Nat.le_refl _)⟩;have hkp:KpB W w6:=⟨h2.below.size,fun g t cs t1 t2 hb=>by obtain⟨bs,hbb⟩:=hb1.blk;exact h2.blk hb (Blk.ne_ hb hbb t2) t1⟩
  gi_wp2
  exact⟨⟨h2.below.size,fun k o _ hk ho=>h2.others k o hk (fun e=>by obtain⟨bs,hbb⟩:=hb1.blk;cases e;have h7:W.heap[w1.heap.size]? =some (.cells bs 102):=hbb;rw[hk]at h7;cases h7;simp[Obj.isCells]at ho) (fun cs fz e=>by subst e;simp[Obj.isCells]at ho)⟩,hkp,hwi⟩
 case done=>
  rintro D ys W hD hS ⟨hb1,hb2,hb3⟩ hK
  gi_wp2
  refine⟨trivial,(callsIn_wide.2 (qb1 W w.heap.size w1.heap.size (cat ys) hb1 hb3.size)).mono ?_⟩;rintro e w6 ⟨rfl,st⟩
  gi_wp2
  have hK6:w6.heap[D]? =some (.deferred (some [])):=st.others D _ hK (fun e=>by obtain⟨bs,hbb⟩:=hb1.blk;cases e;have h7:W.heap[w1.heap.size]? =some (.cells bs 102):=hbb;rw[hK]at h7;cases h7) (fun cs fz e=>by cases e);have hm6:=st.mod hb3 (Nat.le_refl _);have hDw:w.heap.size≤D:=by have h8:w1.heap.size+1+1≤D:=(by simpa using hD);omega
  have hg:=grownBy_putObj' w6 D (.deferred none);refine⟨by simp,.inl ⟨_,_,rfl,run_takeDeferred hK6,?_⟩⟩;refine⟨_,results_tmp2 rfl _ _ _,rfl,⟨hg.os.trans hm6.os,hg.tape.trans hm6.tape,hg.output.trans hm6.output,Nat.le_trans hm6.size hg.size,fun k hk _=>(hg.block k (Nat.lt_of_lt_of_le hk hm6.size) (fun e=> ?_)).trans (hm6.block k hk (by simp))⟩⟩;cases e;omega
 case stop=>rintro D c pre W _ _ h _;exact h.elim
end Go.Proofs.YtlfjhgamlkbofaaGreatDoor
namespace Go.Proofs.YtlfjhgamlkbofaaGreatDoor
open Go.RowKit
def wrB (f:Fr):ByteArray:=⟨(fwS f).toArray⟩
theorem ju0 (w:World) (A:Option Addr) (n c:Nat) (f:Fr) (hr:Rngs w A n f.list):
  Calls Tryz.prog 83 #[q17 A n c f] w fun e w'=>e=.returned (.tuple #[.string (wrB f),.int .i64 (fwE f)])∧Mod [] w w':=by
 cases hm:q31 f with
 | true=>have e1:wrB f=⟨(q15 f).toArray⟩:=(by unfold wrB fwS;rw[hm];rfl);have e2:fwE f=0:=(by unfold fwE;rw[hm];rfl);rw[e1,e2];exact jy0 w A n c f hr hm
 | false=>have e1:wrB f=⟨#[]⟩:=(by unfold wrB fwS;rw[hm];rfl);have e2:fwE f=2:=(by unfold fwE;rw[hm];rfl);rw[e1,e2];exact jy w A n c f hr hm
end Go.Proofs.YtlfjhgamlkbofaaGreatDoor
