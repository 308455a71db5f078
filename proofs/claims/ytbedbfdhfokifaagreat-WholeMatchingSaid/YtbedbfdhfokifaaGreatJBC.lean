/- Part of the proof of WholeMatching. -/
import Derived.Test.YtbedbfdhfokifaaGreatJAY
import Derived.Test.YtbedbfdhfokifaaGreatJAZ
import Derived.Test.YtbedbfdhfokifaaGreatJBA
namespace Go.Proofs.YtbedbfdhfokifaaGreat
set_option maxRecDepth 100000
set_option maxHeartbeats 16000000
set_option linter.unusedVariables false
set_option linter.unusedSimpArgs false
open _root_.Bool renaming true->ae,false->ag
open Go renaming World->Z,Calls->aF,Addr->aG,Value->aj,maxLen->bK,Ending->eG
open Go.Ending renaming returned->bM
open Go.IntKind renaming i64->F
open Go.Lit renaming int->jQ
open Go.Obj renaming cells->U
open Go.Proofs.Tryz renaming prog->ak
open Go.Value renaming int->G,slice->T,bool->aA,pointer->aN,string->av,agg->az,tuple->bG
open _root_.Option renaming none->J,some->N
open Go.RowKit
def aec (X:Int) (w1:Z) (jb b1 b2:Nat) (fP:Array aj) (es:List aI) (x:aI) (e:eG) (w':Z):Prop:=
 e= .returned (G F X)/\Below w1.heap.size w1 w'/\(X=0-> ∃ (v':aj) (L':List aI),vZ w1 w' jb b1 b2 fP v' L' (es++ [x]))
section
variable (aB:Array aj) (cur:ByteArray) (y m p:Int) (cl:List Acc) (cA:Option aG) (cc:Nat) (ro:dZ) (el:List aY) (eA:Option aG) (ec:Nat) (w:Z) (id en da kd fo:Int) (tx:ByteArray) (ll:List bq) (lA:Option aG) (lc:Nat)
theorem ajo (w1:Z) (jb b1 b2:Nat) (v:aj) (L es:List aI) (HG:Hid (aB= #[av cur,G F y,G F m,G F p,T cA cl.length cc,G F ro.dU,G F ro.dR,G F ro.dO,G F ro.inventory,G F ro.reserve,G F ro.dV,G F ro.dJ,G F ro.acquired,G F ro.dX,G F ro.dP,G F ro.dN,G F ro.dQ,G F ro.dW,G F ro.difference,G F ro.dL,T eA el.length ec])) (hg:eB w1 cl cA el eA) (hF:lY cur cl el) (h:vZ w1 w jb b1 b2 aB v L es)
 (hes: ∀ y'∈es,Jn.bJ (Gr.gv cur cl ro el (ax.ok y m p)) el.length (Jn.kB el) (Jn.dB y m p) y'=0) (hln:es.length<=1000) (htx:tx.size<=bK) (hr:Rd w w.heap.size 3 lA ll.length (cellsOf bq.cells ll)) (hn:ll.length<=1000) (hid:Wf id) (hfo:Wf fo):
 aF ak 99 #[aN (N ⟨jb,0,J⟩),az #[G F id,G F en,G F da,G F kd,G F fo,av tx,T lA ll.length lc]] w (aec (Jn.qi (Jn.bJ (Gr.gv cur cl ro el (ax.ok y m p)) el.length (Jn.kB el) (Jn.dB y m p)) es (⟨id,en,da,kd,fo,tx,⟨ll,lA,lc⟩⟩:aI)) w1 jb b1 b2 aB es (⟨id,en,da,kd,fo,tx,⟨ll,lA,lc⟩⟩:aI)):=by
 have qc:aB.size=21:=aQ;have fF:=I h;have HR:=I hr;have Ky: ∀ y'∈es,y'.lines.l.length<=40/\ ∀ l∈y'.lines.l,-1000000000000<=l.amount/\l.amount<=1000000000000:=λy' hy=>(Jn.Yj (hes y' hy)).2
 have KC:=I (λW h hr=>agk aB cur y m p cl cA cc ro el eA ec W id en da kd fo tx ll lA lc HG h hF htx hr hn);have KR:=I (λW h hr=>amY W id en da kd fo tx ll lA lc w1 jb b1 b2 aB v L es h qc Ky hln hr hn hfo);have HGW:=I (hg.step fF.out.below);obtain⟨i0,hi,hz0,hz1,hz2⟩:=jh aI.info;have vR:=I (Jn.abe (C:=Jn.bJ (Gr.gv cur cl ro el (ax.ok y m p)) el.length (Jn.kB el) (Jn.dB y m p)) (es:=es) (x:=(⟨id,en,da,kd,fo,tx,⟨ll,lA,lc⟩⟩:aI)) O);have We:=I (λh i=>Jn.ahe (C:=Jn.bJ (Gr.gv cur cl ro el (ax.ok y m p)) el.length (Jn.kB el) (Jn.dB y m p)) (es:=es) (x:=(⟨id,en,da,kd,fo,tx,⟨ll,lA,lc⟩⟩:aI)) h i);have HRA:=I (λh h3 i=>Jn.amW (C:=Jn.bJ (Gr.gv cur cl ro el (ax.ok y m p)) el.length (Jn.kB el) (Jn.dB y m p)) (es:=es) (x:=(⟨id,en,da,kd,fo,tx,⟨ll,lA,lc⟩⟩:aI)) h h3 i);generalize Jn.qi (Jn.bJ (Gr.gv cur cl ro el (ax.ok y m p)) el.length (Jn.kB el) (Jn.dB y m p)) es (⟨id,en,da,kd,fo,tx,⟨ll,lA,lc⟩⟩:aI)=X at*;generalize Jn.bJ (Gr.gv cur cl ro el (ax.ok y m p)) el.length (Jn.kB el) (Jn.dB y m p) (⟨id,en,da,kd,fo,tx,⟨ll,lA,lc⟩⟩:aI)=c0 at*;have hll:L.length=es.length:=by have:=congrArg List.length h.same;simpa using this
 have yM:=I hll;have hlL:L.length<=1000:=O;clear hll;obtain⟨A,c,hv,-⟩:=Rd.dE h.row;subst hv;have Xb:Hid (∀ j,(T A L.length c).ownBlock=N j->j<w.heap.size):=I (λj hj=>(fF.out.row.lt j hj).2);clear h hr hes Ky hg hF;have hb:Below w.heap.size w (w.alloc (U #[G F id,G F en,G F da,G F kd,G F fo,av tx,T lA ll.length lc] 107)):=(aD _ _).alloc (aC _) _;have HP:=I (au.new w 107 #[G F id,G F en,G F da,G F kd,G F fo,av tx,T lA ll.length lc]);have HJ:=I (fF.out.blk.step hb);go_enter Tryz.func99,Tryz.ntmps99;go_upto_region 1 with fail
 generalize w.alloc (U #[G F id,G F en,G F da,G F kd,G F fo,av tx,T lA ll.length lc] 107)=W at*;go_upto_region 3 with fail
 refine eX ai ai ?_
 (repeat (go_big_quiet_step ((fail))))
 refine amf 29 (.tmp 13) rfl jb 0 rfl ai aB (ajl HJ.out qc) HJ.out.lt bQ 21 gy qc ?_
 (try simp only[Zx])
 refine zq 107 (.tmp 3) rfl w.heap.size rfl ai HP.out mH Al ?_
 (try simp only[Zx])
 (repeat (go_big_quiet_step ((fail))));go_big_quiet_step ((go_at_call 147;exact Later.call _ (KC.out _ (HGW.out.step (ay hb (Later.below _))) (Rd.now HR.out (ay hb (Later.below _))))))
 (repeat (go_big_quiet_step ((fail))));refine wpQuiet_nil ?_;rintro _ ⟨dq,rfl⟩
 have hb2:=ay hb dq.below;replace HP:=I (HP.out.step dq.below);clear HJ hb;generalize dq.now=W2 at*;clear dq;have HJ2:=I (fF.out.step hb2)
 cases hc:(c0 !=0)
 ·have hc0:c0=0:=by simpa using hc
  have D9:Hid (X=if (Jn.get es id).isSome then 9 else if kd=3 then Jn.mX es (⟨id,en,da,kd,fo,tx,⟨ll,lA,lc⟩⟩:aI) else 0):=I (by rw[vR.out,bB hc0]);clear hc0;go_upto_region 6 with fail
  have q0: ∀ d:Later W2,d.now.cell? ⟨jb,22,J⟩=N (.map (N b1)):=λd=>d.cell HJ2.out.blk.lt ((HJ2.out.blk.cell 22).trans (sJ qc 1))
  have q1: ∀ d:Later W2,d.now.cell? ⟨w.heap.size,0,J⟩=N (G F id):=λd=>d.cell HP.out.lt (HP.out.cell 0)
  have qL: ∀ d:Later W2,(Instr.lookup 236 (.map (N b1)) (G F id) ae).run ak d.now= .ok (bG #[G F (((Jn.get es id).map Int.ofNat).getD 0),aA ((Jn.get es id).map Int.ofNat).isSome]) d.now:=λd=>(HJ2.out.m1.step d.below).look dh dh Iz (Vq _) hid
  cases hget:Jn.get es id with
  |some k=>
   have HE:Hid (X=9):=I (by rw[D9.out,hget];rfl);rw[hget]at qL;dsimp only[Option.map_some,rz,rD]at qL;clear hget;refine eX ai ai ?_;(repeat (go_big_quiet_step ((fail))));refine wpQuiet_nil ?_;rintro _ ⟨dq,rfl⟩;have hbe:=ay hb2 dq.below;have HJE:=I (fF.out.step hbe);go_wp2_with fail;go_ret;exact⟨by rw[HE.out];rfl,HJE.out.below,λh=>by rw[HE.out]at h;cases h⟩
  |none=>
   have Jf:Hid (X=if kd=3 then Jn.mX es (⟨id,en,da,kd,fo,tx,⟨ll,lA,lc⟩⟩:aI) else 0):=I (by rw[D9.out,hget];rfl);rw[hget]at qL;dsimp only[Option.map_none,Dz,wV]at qL;clear hget D9 vR;refine eX ai ai ?_;(repeat (go_big_quiet_step ((fail))));refine wpQuiet_nil ?_;rintro _ ⟨dq,rfl⟩;have hb3:=ay hb2 dq.below;replace HP:=I (HP.out.step dq.below);clear q0 q1 qL HJ2 hb2;generalize dq.now=W3 at*;clear dq;have xA:=I (fF.out.step hb3);have k3:W3.cell? ⟨w.heap.size,3,J⟩=N (G F kd):=HP.out.cell 3;have k21:W3.cell? ⟨jb,21,J⟩=N (T A L.length c):=(xA.out.blk.cell 21).trans (sJ qc 0);have hnl: ¬ (2000:Int)<=(L.length:Int):=O
   cases h3:(kd==3)
   ·have h3':kd≠3:=by simpa using h3
    have HX0:Hid (X=0):=I (by rw[Jf.out,bE h3']);have tq:Hid (∀ i,Jn.rev es i=Jn.rev (es++ [(⟨id,en,da,kd,fo,tx,⟨ll,lA,lc⟩⟩:aI)]) i):=I (λi=>(Jn.amU (x:=(⟨id,en,da,kd,fo,tx,⟨ll,lA,lc⟩⟩:aI)) h3' i).symm);have BA:=I (We.out HX0.out);clear h3';go_upto_region 17 with fail
    obtain⟨S,hS⟩: ∃ S:Z->Prop,S=λw'=>au w' w.heap.size 107 #[G F id,G F en,G F da,G F kd,G F fo,av tx,T lA ll.length lc]/\au w' jb 238 (og aB (T A L.length c) b1 b2):=⟨_,rfl⟩
    have JX:=I xA.out.mid;have uD:=I (Rd.now HR.out hb3);clear k3 k21;have aR:Hid (∀ w':Z,(au w' w.heap.size 107 #[G F id,G F en,G F da,G F kd,G F fo,av tx,T lA ll.length lc]/\au w' jb 238 (og aB (T A L.length c) b1 b2))↔S w'):=I (λw'=>by rw[hS]);clear hS;have hC: ∃ d:aK S,(W3).drew=d.now:=aK.of ((aR.out _).1 ⟨(HP).out.drew,(JX).out.blk.drew⟩);haveI:Nonempty (aK S):=by obtain⟨d,_⟩:=hC;exact⟨d⟩
    have q0: ∀ d:aK S,d.now.cell? ⟨jb,22,J⟩=N (.map (N b1)):=λd=>(((aR.out _).2 d.is).2.cell 22).trans (sJ qc 1)
    have q1: ∀ d:aK S,d.now.cell? ⟨w.heap.size,0,J⟩=N (G F id):=λd=>((aR.out _).2 d.is).1.cell 0
    have q2: ∀ d:aK S,d.now.cell? ⟨jb,21,J⟩=N (T A L.length c):=λd=>(((aR.out _).2 d.is).2.cell 21).trans (sJ qc 0)
    refine nK (n:=12) S 11 ai rfl ?_;have hT:=tg 0;(iterate 11 refine aab hT hC ?_;clear hT;intro hT K hK;go_big_quiet_op;go_big_quiet_on);clear hT;obtain⟨wy,r5,m5,g5⟩:=((JX).out.step (aD (W3).heap.size (W3)).drew).m1.put (g:=λi=>(Jn.get (es++ [(⟨id,en,da,kd,fo,tx,⟨ll,lA,lc⟩⟩:aI)]) i).map Int.ofNat) dh dh Iz fQ hid (y:=(L.length:Int)) (LV O O) (by rw[BA.out id,bB rfl,yM.out];rfl) (λd hd=>by rw[BA.out d,bE hd]);have JY:=I (((JX).out.step (aD (W3).heap.size (W3)).drew).abk g5 m5);have Jg:=I ((HP).out.drew.grown g5 (λe=>by injection e with e;exact(JX).out.m1.lI (HP).out e.symm));have Rl:Hid (Rd wy wy.heap.size 3 lA ll.length (cellsOf bq.cells ll)):=I ((Rd.past (uD).out.drew g5 (JX).out.m1.isMap).more g5.size);refine dw (i:=11) ai rfl rfl ?_;intro K hK;go_simp;refine hK _ _ (.inr (.inl rfl)) ?_;clear hK K r5 m5 g5 hC q0 q1 q2
    (try simp only[Zx])
    refine kH ai ?_ _;go_upto_region 18 with fail
    have hC: ∃ d:aK S,wy.drew=d.now:=aK.of ((aR.out _).1 ⟨Jg.out.drew,JY.out.blk.drew⟩);have q2: ∀ d:aK S,d.now.cell? ⟨jb,21,J⟩=N (T A L.length c):=λd=>(((aR.out _).2 d.is).2.cell 21).trans (sJ qc 0)
    have k0: ∀ d:aK S,d.now.cell? ⟨w.heap.size,0,J⟩=N (G F id):=λd=>((aR.out _).2 d.is).1.cell 0
    have k1: ∀ d:aK S,d.now.cell? ⟨w.heap.size,1,J⟩=N (G F en):=λd=>((aR.out _).2 d.is).1.cell 1
    have k2: ∀ d:aK S,d.now.cell? ⟨w.heap.size,2,J⟩=N (G F da):=λd=>((aR.out _).2 d.is).1.cell 2
    have k3: ∀ d:aK S,d.now.cell? ⟨w.heap.size,3,J⟩=N (G F kd):=λd=>((aR.out _).2 d.is).1.cell 3
    have k4: ∀ d:aK S,d.now.cell? ⟨w.heap.size,4,J⟩=N (G F fo):=λd=>((aR.out _).2 d.is).1.cell 4
    have k5: ∀ d:aK S,d.now.cell? ⟨w.heap.size,5,J⟩=N (av tx):=λd=>((aR.out _).2 d.is).1.cell 5
    have k6: ∀ d:aK S,d.now.cell? ⟨w.heap.size,6,J⟩=N (T lA ll.length lc):=λd=>((aR.out _).2 d.is).1.cell 6
    refine nK (n:=12) S 11 ai rfl ?_;have hT:=tg 0;(iterate 6 refine aab hT hC ?_;clear hT;intro hT K hK;go_big_quiet_op;go_big_quiet_on);clear hT;clear q2 k0 k1 k2 k3 k4 k5 k6;refine dw (i:=6) ai rfl rfl ?_;intro K hK;go_simp;go_at_call 149;refine(Yq id en da kd fo tx ll lA lc _ Rl.out.drew hn).mono ?_;rintro e w8 ⟨A2,c2,rfl,wE,ah⟩;have gQ:Below wy.heap.size wy w8:=ay (aD wy.heap.size wy).drew ah;have J8:=I (JY.out.step gQ);have jN:=I (Jg.out.step gQ);have pU:Hid (gp bq.cells w1.heap.size 131 3 w8 ⟨ll,A2,c2⟩):=I (wE.JF JY.out.below.size);clear wE ah gQ hC
    (try go_wp2_with fail)
    refine hK _ _ (.inr (.inr (aK.of ((aR.out _).1 ⟨jN.out,J8.out.blk⟩)))) ?_;clear hK K
    (try simp only[Zx])
    refine dw (i:=7) ai rfl rfl ?_;intro K hK;go_simp;have hbn:Below w8.heap.size w8 (w8.alloc (U #[G F id,G F en,G F da,G F kd,G F fo,av tx,T A2 ll.length c2] 107)):=(aD _ _).alloc (aC _) _;have mM:=I (au.new w8 107 #[G F id,G F en,G F da,G F kd,G F fo,av tx,T A2 ll.length c2]);have J9:=I (J8.out.step hbn);have yR:=I (jN.out.step hbn);have rM:Hid (gp bq.cells w1.heap.size 131 3 (w8.alloc (U #[G F id,G F en,G F da,G F kd,G F fo,av tx,T A2 ll.length c2] 107)) ⟨ll,A2,c2⟩):=I (dF pU.out hbn);refine hK _ _ (.inr (.inr (aK.of ((aR.out _).1 ⟨yR.out,J9.out.blk⟩)))) ?_;clear hK K hbn J8 jN pU;generalize hgn:w8.heap.size=n8 at*;generalize w8.alloc (U #[G F id,G F en,G F da,G F kd,G F fo,av tx,T A2 ll.length c2] 107)=w9 at*;clear hgn
    (try simp only[Zx])
    refine dw (i:=8) ai rfl rfl ?_;intro K hK;refine H6 w9 aI.cells 7 aI.len aI.one (.tmp 72) (.tmp 75) 30 rfl w1.heap.size 107 i0 (az #[G F 0,G F 0,G F 0,G F 0,G F 0,av ⟨#[]⟩,T J 0 0]) 80 PY hi hz0 hz1 hz2 rfl aJ (T A L.length c) L rfl J9.out.row n8 1 ⟨id,en,da,kd,fo,tx,⟨ll,A2,c2⟩⟩ #[G F id,G F en,G F da,G F kd,G F fo,av tx,T A2 ll.length c2] rfl mM.out rfl fQ O J9.out.below.size ?_;intro v10 iG mo iD;obtain⟨qD,c10,ug,-⟩:=Rd.dE mo;rw[fK,ow]at ug;subst ug;have JA:=I (J9.out.more qc rM.out iD mo (y:=(⟨id,en,da,kd,fo,tx,⟨ll,lA,lc⟩⟩:aI)) rfl);have EO:N jb≠(T A L.length c).ownBlock:=gF J9.out.row J9.out.blk aJ;have Kw:N w.heap.size≠(T A L.length c).ownBlock:=λe=>by have:=Xb.out _ e.symm;omega
    have Rb:=I (yR.out.grown iD Kw);have pR:=I (J9.out.blk.grown iD EO);have hC: ∃ d:aK S,iG=d.now:=aK.of ((aR.out _).1 ⟨Rb.out,pR.out⟩);refine hK _ _ (.inr (.inr hC)) ?_;clear hK K EO Kw iD mo
    (try simp only[Zx])
    refine dw (i:=9) ai rfl rfl ?_;intro K hK;go_simp;refine hK _ _ (.inr (.inr hC)) ?_;clear hK K
    (try simp only[Zx])
    refine dw (i:=10) ai rfl rfl ?_;intro K hK;go_simp;refine hK _ _ (.inr (.inr hC)) ?_;clear hK K hC
    (try simp only[Zx])
    refine dw (i:=11) ai rfl rfl ?_;intro K hK;have x1:iG.cell? ⟨jb,21,J⟩=N (T A L.length c):=(pR.out.cell 21).trans (sJ qc 0);have x2:iG.frozen? ⟨jb,21,J⟩=ag:=pR.out.frozen 21;go_simp;refine hK _ _ (.inr (.inl rfl)) ?_;clear hK K x1 x2
    (try simp only[Zx])
    refine kH ai ?_ _;go_wp2_with fail;go_ret;have JD:=JA.out.done O O (λi=>rfl) (tq.out);exact⟨by rw[HX0.out];rfl,JD.below,λ_=>⟨_,_,JD⟩⟩
   ·have h3':kd=3:=by simpa using h3
    have Gb:Hid (X=Jn.mX es (⟨id,en,da,kd,fo,tx,⟨ll,lA,lc⟩⟩:aI)):=I (by rw[Jf.out,bB h3']);have K3:=I (KR.out W3 xA.out (Rd.now HR.out hb3));generalize Jn.mX es (⟨id,en,da,kd,fo,tx,⟨ll,lA,lc⟩⟩:aI)=rE at*;have adx:=I (λh i=>HRA.out h h3' i);clear h3'
    cases hr0:(rE !=0)
    ·have HX0:Hid (X=0):=I (by rw[Gb.out];simpa using hr0);have BA:=I (We.out HX0.out);have HR1:=I (adx.out HX0.out);go_upto_region 13 with (first
      |(refine cZ 107 (.tmp 3) rfl w.heap.size rfl ai HP.out mH Al ?_)
      |(go_at_call 148;refine K3.out.mono ?_;rintro e w4 ⟨rfl,ah⟩;have hb4:=ay hb3 ah;have kU:=I (HP.out.step ah);clear ah))
     have xB:=I (fF.out.step hb4);have x3:w4.cell? ⟨w.heap.size,3,J⟩=N (G F kd):=kU.out.cell 3;have x21:w4.cell? ⟨jb,21,J⟩=N (T A L.length c):=(xB.out.blk.cell 21).trans (sJ qc 0);go_upto_region 16 with fail
     clear x3 x21 k3 k21;obtain⟨S,hS⟩: ∃ S:Z->Prop,S=λw'=>au w' w.heap.size 107 #[G F id,G F en,G F da,G F kd,G F fo,av tx,T lA ll.length lc]/\au w' jb 238 (og aB (T A L.length c) b1 b2):=⟨_,rfl⟩
     have Jo:Hid (∀ w':Z,(au w' w.heap.size 107 #[G F id,G F en,G F da,G F kd,G F fo,av tx,T lA ll.length lc]/\au w' jb 238 (og aB (T A L.length c) b1 b2))↔S w'):=I (λw'=>by rw[hS]);have HSE:=I hS;clear hS;have hC: ∃ d:aK S,w4.drew=d.now:=aK.of ((Jo.out _).1 ⟨kU.out.drew,xB.out.blk.drew⟩);haveI:Nonempty (aK S):=by obtain⟨d,_⟩:=hC;exact⟨d⟩
     have q0: ∀ d:aK S,d.now.cell? ⟨jb,23,J⟩=N (.map (N b2)):=λd=>(((Jo.out _).2 d.is).2.cell 23).trans (sJ qc 2)
     have q1: ∀ d:aK S,d.now.cell? ⟨w.heap.size,0,J⟩=N (G F id):=λd=>((Jo.out _).2 d.is).1.cell 0
     have q2: ∀ d:aK S,d.now.cell? ⟨w.heap.size,4,J⟩=N (G F fo):=λd=>((Jo.out _).2 d.is).1.cell 4
     refine nK (n:=9) S 8 ai rfl ?_;have hT:=tg 0;(iterate 8 refine aab hT hC ?_;clear hT;intro hT K hK;go_big_quiet_op;go_big_quiet_on);clear hT;obtain⟨wx,r5,m5,g5⟩:=(xB.out.mid.step (aD w4.heap.size w4).drew).m2.put (g:=λi=>Jn.rev (es++ [(⟨id,en,da,kd,fo,tx,⟨ll,lA,lc⟩⟩:aI)]) i) dh dh Iz fQ hfo (y:=id) hid (by rw[HR1.out fo,bB rfl]) (λd hd=>by rw[HR1.out d,bE hd]);have JX:=I ((xB.out.mid.step (aD w4.heap.size w4).drew).al5 g5 m5);have Rc:=I (kU.out.drew.grown g5 (λe=>by injection e with e;exact xB.out.m2.lI kU.out e.symm));have uD:Hid (Rd wx wx.heap.size 3 lA ll.length (cellsOf bq.cells ll)):=I ((Rd.past (Rd.now HR.out hb4).drew g5 xB.out.m2.isMap).more g5.size);refine dw (i:=8) ai rfl rfl ?_;intro K hK;go_simp;refine hK _ _ (.inr (.inl rfl)) ?_;clear hK K r5 m5 g5 hC q0 q1 q2 Jo
     (try simp only[Zx])
     refine kH ai ?_ _;go_upto_region 17 with fail
     have hS:=HSE.out;have aR:Hid (∀ w':Z,(au w' w.heap.size 107 #[G F id,G F en,G F da,G F kd,G F fo,av tx,T lA ll.length lc]/\au w' jb 238 (og aB (T A L.length c) b1 b2))↔S w'):=I (λw'=>by rw[hS]);clear hS;have hC: ∃ d:aK S,(wx).drew=d.now:=aK.of ((aR.out _).1 ⟨(Rc).out.drew,(JX).out.blk.drew⟩);haveI:Nonempty (aK S):=by obtain⟨d,_⟩:=hC;exact⟨d⟩
     have q0: ∀ d:aK S,d.now.cell? ⟨jb,22,J⟩=N (.map (N b1)):=λd=>(((aR.out _).2 d.is).2.cell 22).trans (sJ qc 1)
     have q1: ∀ d:aK S,d.now.cell? ⟨w.heap.size,0,J⟩=N (G F id):=λd=>((aR.out _).2 d.is).1.cell 0
     have q2: ∀ d:aK S,d.now.cell? ⟨jb,21,J⟩=N (T A L.length c):=λd=>(((aR.out _).2 d.is).2.cell 21).trans (sJ qc 0)
     refine nK (n:=12) S 11 ai rfl ?_;have hT:=tg 0;(iterate 11 refine aab hT hC ?_;clear hT;intro hT K hK;go_big_quiet_op;go_big_quiet_on);clear hT;obtain⟨wy,r5,m5,g5⟩:=((JX).out.step (aD (wx).heap.size (wx)).drew).m1.put (g:=λi=>(Jn.get (es++ [(⟨id,en,da,kd,fo,tx,⟨ll,lA,lc⟩⟩:aI)]) i).map Int.ofNat) dh dh Iz fQ hid (y:=(L.length:Int)) (LV O O) (by rw[BA.out id,bB rfl,yM.out];rfl) (λd hd=>by rw[BA.out d,bE hd]);have JY:=I (((JX).out.step (aD (wx).heap.size (wx)).drew).abk g5 m5);have Jg:=I ((Rc).out.drew.grown g5 (λe=>by injection e with e;exact(JX).out.m1.lI (Rc).out e.symm));have Rl:Hid (Rd wy wy.heap.size 3 lA ll.length (cellsOf bq.cells ll)):=I ((Rd.past (uD).out.drew g5 (JX).out.m1.isMap).more g5.size);refine dw (i:=11) ai rfl rfl ?_;intro K hK;go_simp;refine hK _ _ (.inr (.inl rfl)) ?_;clear hK K r5 m5 g5 hC q0 q1 q2
     (try simp only[Zx])
     refine kH ai ?_ _;go_upto_region 18 with fail
     have hC: ∃ d:aK S,wy.drew=d.now:=aK.of ((aR.out _).1 ⟨Jg.out.drew,JY.out.blk.drew⟩);have q2: ∀ d:aK S,d.now.cell? ⟨jb,21,J⟩=N (T A L.length c):=λd=>(((aR.out _).2 d.is).2.cell 21).trans (sJ qc 0)
     have k0: ∀ d:aK S,d.now.cell? ⟨w.heap.size,0,J⟩=N (G F id):=λd=>((aR.out _).2 d.is).1.cell 0
     have k1: ∀ d:aK S,d.now.cell? ⟨w.heap.size,1,J⟩=N (G F en):=λd=>((aR.out _).2 d.is).1.cell 1
     have k2: ∀ d:aK S,d.now.cell? ⟨w.heap.size,2,J⟩=N (G F da):=λd=>((aR.out _).2 d.is).1.cell 2
     have k3: ∀ d:aK S,d.now.cell? ⟨w.heap.size,3,J⟩=N (G F kd):=λd=>((aR.out _).2 d.is).1.cell 3
     have k4: ∀ d:aK S,d.now.cell? ⟨w.heap.size,4,J⟩=N (G F fo):=λd=>((aR.out _).2 d.is).1.cell 4
     have k5: ∀ d:aK S,d.now.cell? ⟨w.heap.size,5,J⟩=N (av tx):=λd=>((aR.out _).2 d.is).1.cell 5
     have k6: ∀ d:aK S,d.now.cell? ⟨w.heap.size,6,J⟩=N (T lA ll.length lc):=λd=>((aR.out _).2 d.is).1.cell 6
     refine nK (n:=12) S 11 ai rfl ?_;have hT:=tg 0;(iterate 6 refine aab hT hC ?_;clear hT;intro hT K hK;go_big_quiet_op;go_big_quiet_on);clear hT;clear q2 k0 k1 k2 k3 k4 k5 k6;refine dw (i:=6) ai rfl rfl ?_;intro K hK;go_simp;go_at_call 149;refine(Yq id en da kd fo tx ll lA lc _ Rl.out.drew hn).mono ?_;rintro e w8 ⟨A2,c2,rfl,wE,ah⟩;have gQ:Below wy.heap.size wy w8:=ay (aD wy.heap.size wy).drew ah;have J8:=I (JY.out.step gQ);have jN:=I (Jg.out.step gQ);have pU:Hid (gp bq.cells w1.heap.size 131 3 w8 ⟨ll,A2,c2⟩):=I (wE.JF JY.out.below.size);clear wE ah gQ hC
     (try go_wp2_with fail)
     refine hK _ _ (.inr (.inr (aK.of ((aR.out _).1 ⟨jN.out,J8.out.blk⟩)))) ?_;clear hK K
     (try simp only[Zx])
     refine dw (i:=7) ai rfl rfl ?_;intro K hK;go_simp;have hbn:Below w8.heap.size w8 (w8.alloc (U #[G F id,G F en,G F da,G F kd,G F fo,av tx,T A2 ll.length c2] 107)):=(aD _ _).alloc (aC _) _;have mM:=I (au.new w8 107 #[G F id,G F en,G F da,G F kd,G F fo,av tx,T A2 ll.length c2]);have J9:=I (J8.out.step hbn);have yR:=I (jN.out.step hbn);have rM:Hid (gp bq.cells w1.heap.size 131 3 (w8.alloc (U #[G F id,G F en,G F da,G F kd,G F fo,av tx,T A2 ll.length c2] 107)) ⟨ll,A2,c2⟩):=I (dF pU.out hbn);refine hK _ _ (.inr (.inr (aK.of ((aR.out _).1 ⟨yR.out,J9.out.blk⟩)))) ?_;clear hK K hbn J8 jN pU;generalize hgn:w8.heap.size=n8 at*;generalize w8.alloc (U #[G F id,G F en,G F da,G F kd,G F fo,av tx,T A2 ll.length c2] 107)=w9 at*;clear hgn
     (try simp only[Zx])
     refine dw (i:=8) ai rfl rfl ?_;intro K hK;refine H6 w9 aI.cells 7 aI.len aI.one (.tmp 72) (.tmp 75) 30 rfl w1.heap.size 107 i0 (az #[G F 0,G F 0,G F 0,G F 0,G F 0,av ⟨#[]⟩,T J 0 0]) 80 PY hi hz0 hz1 hz2 rfl aJ (T A L.length c) L rfl J9.out.row n8 1 ⟨id,en,da,kd,fo,tx,⟨ll,A2,c2⟩⟩ #[G F id,G F en,G F da,G F kd,G F fo,av tx,T A2 ll.length c2] rfl mM.out rfl fQ O J9.out.below.size ?_;intro v10 iG mo iD;obtain⟨qD,c10,ug,-⟩:=Rd.dE mo;rw[fK,ow]at ug;subst ug;have JA:=I (J9.out.more qc rM.out iD mo (y:=(⟨id,en,da,kd,fo,tx,⟨ll,lA,lc⟩⟩:aI)) rfl);have EO:N jb≠(T A L.length c).ownBlock:=gF J9.out.row J9.out.blk aJ;have Kw:N w.heap.size≠(T A L.length c).ownBlock:=λe=>by have:=Xb.out _ e.symm;omega
     have Rb:=I (yR.out.grown iD Kw);have pR:=I (J9.out.blk.grown iD EO);have hC: ∃ d:aK S,iG=d.now:=aK.of ((aR.out _).1 ⟨Rb.out,pR.out⟩);refine hK _ _ (.inr (.inr hC)) ?_;clear hK K EO Kw iD mo
     (try simp only[Zx])
     refine dw (i:=9) ai rfl rfl ?_;intro K hK;go_simp;refine hK _ _ (.inr (.inr hC)) ?_;clear hK K
     (try simp only[Zx])
     refine dw (i:=10) ai rfl rfl ?_;intro K hK;go_simp;refine hK _ _ (.inr (.inr hC)) ?_;clear hK K hC
     (try simp only[Zx])
     refine dw (i:=11) ai rfl rfl ?_;intro K hK;have x1:iG.cell? ⟨jb,21,J⟩=N (T A L.length c):=(pR.out.cell 21).trans (sJ qc 0);have x2:iG.frozen? ⟨jb,21,J⟩=ag:=pR.out.frozen 21;go_simp;refine hK _ _ (.inr (.inl rfl)) ?_;clear hK K x1 x2
     (try simp only[Zx])
     refine kH ai ?_ _;go_wp2_with fail;go_ret;have JD:=JA.out.done O O (λi=>rfl) (λ_=>rfl);exact⟨by rw[HX0.out];rfl,JD.below,λ_=>⟨_,_,JD⟩⟩
    ·have hrr:rE≠0:=by simpa using hr0
     have HRR:=I hrr;clear hrr;go_wp2_with (first
      |(refine cZ 107 (.tmp 3) rfl w.heap.size rfl ai HP.out mH Al ?_)
      |(go_at_call 148;refine K3.out.mono ?_;rintro e w4 ⟨rfl,ah⟩;have hb4:=ay hb3 ah;clear ah))
     have xB:=I (fF.out.step hb4);go_ret;exact⟨by rw[Gb.out];rfl,xB.out.below,λh=>absurd (Gb.out.symm.trans h) HRR.out⟩
 ·have hc0:c0≠0:=by simpa using hc
  have HE:Hid (X=c0):=I (by rw[vR.out,bE hc0]);have zM:=I hc0;clear hc0;go_wp2_with fail;go_ret;exact⟨by rw[HE.out];rfl,HJ2.out.below,λh=>absurd (HE.out.symm.trans h) zM.out⟩
end
structure kL (w:Z) (es:List aI) (A:Option aG):Prop where
 rd:Rd w w.heap.size 7 A es.length (cellsOf aI.cells es)
 ok: ∀ x∈es,x.Ok w
 ln: ∀ x∈es,x.lines.l.length<=60
 am: ∀ x∈es,∀ l∈x.lines.l,-1125899906842624<=l.amount/\l.amount<=1125899906842624
theorem kL.step {w w2:Z} {es:List aI} {A:Option aG} (h:kL w es A) (hb:Below w.heap.size w w2):kL w2 es A:=⟨Rd.now h.rd hb,λx hx=>(h.ok x hx).step hb,h.ln,h.am⟩
def qW (V:Bool) (n:Int) (K:Int->Int->Bool) (D:Int->Bool) (es:List aI):Bool:=V&&Jn.xR (Jn.bJ V n K D) es
def VK (b:Bool) (w:Z) (e:eG) (w':Z):Prop:=
 ∃ (k E:Int),e= .returned (bG #[G F k,G F E])/\(E=0↔b=ae)/\Below w.heap.size w w'
section
variable (aB:Array aj) (cur:ByteArray) (y m p:Int) (cl:List Acc) (cA:Option aG) (cc:Nat) (ro:dZ) (el:List aY) (eA:Option aG) (ec:Nat) (w:Z)
theorem aan (es:List aI) (sA:Option aG) (sc:Nat) (HG:Hid (aB= #[av cur,G F y,G F m,G F p,T cA cl.length cc,G F ro.dU,G F ro.dR,G F ro.dO,G F ro.inventory,G F ro.reserve,G F ro.dV,G F ro.dJ,G F ro.acquired,G F ro.dX,G F ro.dP,G F ro.dN,G F ro.dQ,G F ro.dW,G F ro.difference,G F ro.dL,T eA el.length ec])) (h:eB w cl cA el eA) (hF:lY cur cl el) (hE:kL w es sA) (hn:es.length<=1000):
 aF ak 68 #[az aB,T sA es.length sc] w (VK (qW (Gr.gv cur cl ro el (ax.ok y m p)) el.length (Jn.kB el) (Jn.dB y m p) es) w):=by
 have H:=I h;have HE:=I hE;have KN:=I (λW (h:eB W cl cA el eA)=>akE aB cur y m p cl cA cc ro el eA ec W HG h hF);have hgi:(ak.info? 29).map (·.size)=N aB.size:=by rw[HG.out];exact gy
 have hb:Below w.heap.size w (w.alloc (U aB 29)):=(aD _ _).alloc (aC _) _;have HB:=I (au.new w 29 aB);have M4:=I hF;have DX:Hid (qW (Gr.gv cur cl ro el (ax.ok y m p)) el.length (Jn.kB el) (Jn.dB y m p) es=(Gr.gv cur cl ro el (ax.ok y m p)&&Jn.xR (Jn.bJ (Gr.gv cur cl ro el (ax.ok y m p)) el.length (Jn.kB el) (Jn.dB y m p)) es)):=I rfl;have vR:=I (λ(qQ:List aY) (hbr:qQ.map bare=el.map bare) (nD:Option aG) (pY:Nat) (nE:Option aG) (qa:Nat) (G2:Array aj) (hG2:G2=kF cur y m p cl.length nD pY ro el.length nE qa) (w1:Z) (hg1:eB w1 cl nD qQ nE) W id en da kd fo tx ll lA lc jb b1 b2 v L es' h hes hln htx hr hn hid hfo=>by
  have hp:=ajo G2 cur y m p cl nD pY ro qQ nE qa W id en da kd fo tx ll lA lc w1 jb b1 b2 v L es' (I (by rw[hG2,<- BV hbr];rfl)) hg1 (YE hbr hF) h (by rw[YU hbr,BV hbr,aao hbr];exact hes) hln htx hr hn hid hfo;rw[YU hbr,BV hbr,aao hbr]at hp;exact hp)
 clear h hE hF;generalize qW (Gr.gv cur cl ro el (ax.ok y m p)) el.length (Jn.kB el) (Jn.dB y m p) es=fF at*;generalize SV:Jn.bJ (Gr.gv cur cl ro el (ax.ok y m p)) el.length (Jn.kB el) (Jn.dB y m p)=C at*;clear SV;generalize Gr.gv cur cl ro el (ax.ok y m p)=V at*;go_enter Tryz.func68,Tryz.ntmps68;go_upto_region 1 with fail
 generalize w.alloc (U aB 29)=W at*
 cases V
 ·have QM:Hid (fF=ag):=I DX.out;have KN0:Hid (∀ W,eB W cl cA el eA->aF ak 98 #[az aB] W λe w'=>e= .returned (bG #[aN J,G F 1])/\Below W.heap.size W w'):=I (λW h=>(KN.out W h).mono (λe w' hh=>by
   rcases hh with ⟨-,h1,h2⟩|⟨h0,-⟩
   ·exact⟨h1,h2⟩
   ·cases h0))
  clear KN;go_wp2_with (first
   |(refine cZ 29 (.tmp 2) rfl (w.heap.size) rfl ai (HB).out bQ hgi ?_)
   |(go_at_call 98;refine(KN0.out _ (H.out.step hb)).mono ?_;rintro e w3 ⟨rfl,hb3⟩;have hb4:=ay hb hb3))
  go_ret2;exact⟨0,1,rfl,by rw[QM.out];simp,hb4⟩
 ·have pQ:Hid (fF=Jn.xR C es):=I (by rw[DX.out,qC]);have KN1:Hid (∀ W,eB W cl cA el eA->aF ak 98 #[az aB] W λe w'=> ∃ (jb b1 b2:Nat) (nD:Option aG) (pY:Nat) (qQ:List aY) (nE:Option aG) (qa:Nat) (w1:Z),e= bM (bG #[aN (N ⟨jb,0,J⟩),G F 0])/\
   eB w1 cl nD qQ nE/\qQ.map bare=el.map bare/\Below W.heap.size W w1/\vZ w1 w' jb b1 b2 (kF cur y m p cl.length nD pY ro el.length nE qa) (T J 0 0) [] []):=I (λW h=>(KN.out W h).mono (λe w' hh=>by
   rcases hh with ⟨h0,-⟩|⟨-,hh⟩
   ·cases h0
   ·exact hh))
  clear KN DX;go_upto_region 4 with (first
   |(refine cZ 29 (.tmp 2) rfl (w.heap.size) rfl ai (HB).out bQ hgi ?_)
   |(go_at_call 98;refine(KN1.out _ (H.out.step hb)).mono ?_;rintro e w3 ⟨jb,b1,b2,nD,pY,qQ,nE,qa,w1,rfl,hg1,hbr,hb3,hj⟩;have hb4:=ay hb hb3;have QN:=I hj;have nO:=I (vR.out qQ hbr nD pY nE qa _ rfl w1 hg1);clear hj hbr hg1 hb3))
  obtain⟨G2,hG2⟩: ∃ G2,G2=kF cur y m p cl.length nD pY ro el.length nE qa:=⟨_,rfl⟩;rw[<- hG2]at nO QN;clear hG2 vR hb HB;go_wp2_with fail;go_loopw [21] (λt wr=> ∃ (k:Nat) (v:aj) (L:List aI),k<=es.length/\Jn.AU C es k/\t= G F k/\vZ w1 wr jb b1 b2 G2 v L (es.take k)) (λt _=>es.length - (intOf t).toNat)
  case atStart=>exact⟨0,_,_,O,Jn.aaW C es,rfl,QN.out⟩
  case round=>
   clear QN;obtain⟨k,v,L,hk,hok,rfl,hj⟩:=hrel;have dx:=I hok;have HJ:=I hj;have hb:Below w.heap.size w wr:=hb4.trans (hj.below.mono hb4.size);have hz:=hb.size;clear hok hj
   by_cases hlt:k<es.length
   ·obtain⟨b,o,hA,aX,f0,f1,f2,f3,f4,f5,f6⟩:=aI.at_ (Rd.now HE.out.rd hb) hlt;subst hA;have hxo:=HE.out.ok _ (bP hlt);have hxl:=HE.out.ln _ (bP hlt);have nP:=I (Jn.aoD es k hlt);have HST:=I (λh2=>Jn.aaV (C:=C) hlt dx.out h2);have eH:=I (λh2=>Jn.aaU (C:=C) (es:=es) hlt h2);obtain⟨x,hx⟩: ∃ x,x=es[k]:=⟨_,rfl⟩;rw[<- hx]at f0 f1 f2 f3 f4 f5 f6 hxo hxl nP HST eH;clear hx;obtain⟨id,en,da,kd,fo,tx,⟨ll,lA,lc⟩⟩:=x;dsimp only[Sl.val]at*;have hst:=(aD wr.heap.size wr).alloc (aC _) (U #[G F id,G F en,G F da,G F kd,G F fo,av tx,T lA ll.length lc] 107);have HX:=I (au.new wr 107 #[G F id,G F en,G F da,G F kd,G F fo,av tx,T lA ll.length lc]);have xC:=I (HJ.out.step hst);have hb5:=ay hb hst;have htk:(es.take k).length<=1000:=by rw[jR];omega
    have QC:=I (Jn.aaX dx.out);have HC:=I (nO.out _ id en da kd fo tx ll lA lc jb b1 b2 v L (es.take k) xC.out QC.out htk hxo.2.2.2.2.2.1 (Rd.now hxo.2.2.2.2.2.2.1.1 hb5) O hxo.1 hxo.2.2.2.2.1);generalize Jn.qi C (es.take k) ⟨id,en,da,kd,fo,tx,⟨ll,lA,lc⟩⟩=X at*;clear hxo hxl htk
    cases hX:(X !=0)
    ·have hX0:X=0:=by simpa using hX
     have kr:=I (HST.out hX0);have HX0:=I hX0;clear hX0;go_wp2_with (first
      |(refine cZ 107 (.tmp 9) rfl wr.heap.size rfl ai HX.out mH Al ?_)
      |(go_at_call 99;refine HC.out.mono ?_;rintro e w6 ⟨rfl,ah,ZN⟩;obtain⟨v6,L6,TK⟩:=ZN HX0.out;rw[<- nP.out]at TK;have HJ7:=I TK;clear TK ZN))
     go_roundw
     case rel=>exact⟨k+1,v6,L6,O,kr.out,by go_num,HJ7.out⟩
     case measure=>simp[intOf];omega
    ·have hX0:X≠0:=by simpa using hX
     have Q6:=I (eH.out hX0);have HX0:=I hX0;clear hX0;go_wp2_with (first
      |(refine cZ 107 (.tmp 9) rfl wr.heap.size rfl ai HX.out mH Al ?_)
      |(go_at_call 99;refine HC.out.mono ?_;rintro e w6 ⟨rfl,ah,-⟩;have hb6:=hb4.trans (ah.mono hb4.size);clear ah))
     go_ret2;exact⟨k,X,rfl,⟨λh=>absurd h HX0.out,λh=>by rw[pQ.out,Q6.out]at h;cases h⟩,hb6⟩
   ·have IK:=I (Jn.aaT (C:=C) (es:=es) O dx.out);go_wp2_with fail;go_ret2;exact⟨0,0,rfl,by rw[pQ.out,IK.out];exact⟨λ_=>rfl,λ_=>rfl⟩,hb⟩
end
section
open Go.Maps (Keyed)
def jD (B:Array aj) (L:List aj):Array aj:=(B.toList++L).toArray
section
variable {B:Array aj} {L:List aj}
theorem BX (h:B.size=27) {j:Nat} (hj:j<27):(jD B L)[j]? =B[j]? :=by
 have:j<B.toList.length:=by rw[oq,h];exact hj
 unfold jD;rw[yE,Ic this,q9]
theorem jr (h:B.size=27) (k:Nat):(jD B L)[27+k]? =L[k]? :=by
 unfold jD;rw[yE,PO (by rw[oq,h];omega),oq,h,ML]
theorem NR (h:B.size=27) (k:Nat) (v:aj):(jD B L).setIfInBounds (27+k) v=jD B (L.set k v):=by
 unfold jD;rw[Zi,Qk _ _ (by rw[oq,h];omega),oq,h,ML]
end
structure bN where
 aH:Array aj
 aB:Array aj
 cur:ByteArray
 y:Int
 m:Int
 p:Int
 cl:List Acc
 cA:Option aG
 cc:Nat
 ro:dZ
 el:List aY
 eA:Option aG
 ec:Nat
 es:List aI
 sA:Option aG
 sc:Nat
 rl:List aW
 rA:Option aG
 rc:Nat
structure bN.Is (D:bN):Prop where
 HG:D.aB=kF D.cur D.y D.m D.p D.cl.length D.cA D.cc D.ro D.el.length D.eA D.ec
 size:D.aH.size=27
 ik: ∀ j,j<21->D.aH[j]? =D.aB[j]?
 si:D.aH[21]? =N (T D.sA D.es.length D.sc)
 rat:D.aH[22]? =N (T D.rA D.rl.length D.rc)
 few:lY D.cur D.cl D.el
 ze:D.es.length<=1000
 gv:Gr.gv D.cur D.cl D.ro D.el (ax.ok D.y D.m D.p)=ae
 jv:qW (Gr.gv D.cur D.cl D.ro D.el (ax.ok D.y D.m D.p)) D.el.length (Jn.kB D.el) (Jn.dB D.y D.m D.p) D.es=ae
 rv:Rt.valid D.cur D.rl=ae
 Hr: ∀ r∈D.rl,r.cK.size<=bK/\Wf r.kind/\Wf r.eF
structure bN.In (D:bN) (w:Z):Prop where
 xU:eB w D.cl D.cA D.el D.eA
 nG:kL w D.es D.sA
 Fs:Rd w w.heap.size 4 D.rA D.rl.length (cellsOf aW.cells D.rl)
theorem bN.In.step {D:bN} {w w':Z} (h:D.In w) (hb:Below w.heap.size w w'):D.In w':=⟨h.xU.step hb,h.nG.step hb,Rd.now h.Fs hb⟩
section
variable {D:bN}
theorem bN.Is.uO (h:D.Is):D.aB.size=21:=by rw[h.HG];rfl
theorem bN.Is.b (h:D.Is) {j:Nat} (hj:j<21) {L:List aj}:(jD D.aH L)[j]? =(kF D.cur D.y D.m D.p D.cl.length D.cA D.cc D.ro D.el.length D.eA D.ec)[j]? :=by
 rw[BX h.size O,h.ik j hj,h.HG]
end
def wD (o:Option Int):aj:= az #[G F (o.getD 0),G F (if o.isSome then 0 else 13)]
def jf (b d:Int):aj:= az #[G F b,G F d]
def bN.at_ (D:bN) (c:ByteArray) (b k:Int):Option Int:=if b=2 then Rt.BU D.rl c k (ax.gW D.y D.m D.p k) (ax.cB D.y D.m D.p k) else Rt.spot D.rl c k
structure fZ (D:bN) (w0 w:Z) (g mb n:Nat) (f:aj->Option aj) (en q la:Int) (c:ByteArray):Prop where
 hB:w0.heap.size<=g
 hM:w0.heap.size<=mb
 below:Below w0.heap.size w0 w
 blk:au w g 110 (jD D.aH [G F en,G F q,G F la,.map (N mb),av c,aA (!decide (c=D.cur))])
 map:ig ak 254 (wD (N 0)) w mb n f
 inv: ∀ b d v,f (jf b d)=N v->v=wD (D.at_ c b d)
theorem fZ.step {D:bN} {w0 w w':Z} {g mb n:Nat} {f:aj->Option aj} {en q la:Int} {c:ByteArray} (h:fZ D w0 w g mb n f en q la c) (hb:Below w.heap.size w w'):fZ D w0 w' g mb n f en q la c:=
 ⟨h.hB,h.hM,h.below.trans (hb.mono h.below.size),h.blk.step hb,h.map.step hb,h.inv⟩
def pg (x:Nat) (w w':Z):Prop:= ∀ B t cs,B≠x->au w B t cs->au w' B t cs
theorem pg.refl (x:Nat) (w:Z):pg x w w:=λ_ _ _ _ h=>h
theorem pg.far {x:Nat} {w W:Z} (h:pg x w W) (i:Nat) (v:aj):pg x w (W.setCell ⟨x,i,J⟩ v):=λB t cs hne hB=>(h B t cs hne hB).far (p:=⟨x,i,J⟩) hne v
theorem pg.drew {x:Nat} {w W:Z} (h:pg x w W):pg x w W.drew:=λB t cs hne hB=>(h B t cs hne hB).drew
theorem pg.alloc {x:Nat} {w W:Z} (h:pg x w W) (o:Obj):pg x w (W.alloc o):=λB t cs hne hB=>(h B t cs hne hB).alloc o
theorem sM:Keyed ak 254:=Mq (deep_law_laid ai (m:=3) aJ (iY ai) ai ai)
section
variable (w:Z)
theorem Sy (D:bN) (hD:D.Is) (w0:Z) (hI:D.In w0) (hb:Below w0.heap.size w0 w) (g:Nat) (hg:w0.heap.size<=g) (e0 q la:Int) (k0:aj) (c0:ByteArray) (b0:Bool) (en:Nat) (hen:en<D.el.length)
 (hB:au w g 110 (jD D.aH [G F e0,G F q,G F la,k0,av c0,aA b0])):
 aF ak 60 #[aN (N ⟨g,0,J⟩),G F en] w λe w'=>e= .returned (.tuple #[])/\pg g w w'/\ ∃ mb,fZ D w0 w' g mb 0 (λ_=>J) en q la D.el[en].cK:=by
 have HB:=I hB;have hlt:=hB.lt;have f27:w.frozen? ⟨g,27,J⟩=ag:=hB.frozen 27;have y7:w.cell? ⟨g,27,J⟩=N (G F e0):=(hB.cell 27).trans (jr hD.size 0);have HE:=I (hI.xU.en);clear hI hB;go_enter Tryz.func60,Tryz.ntmps60;go_upto_region 1 with fail
 have HB1:=I ((NR hD.size 0 (G F en)) ▸ HB.out.bZ 27 (G F en));have hb1:=hb.setCell (p:=⟨g,27,J⟩) hg (G F en);simp only[Zz]at HB1;have Wv:=I ((pg.refl g w).far 27 (G F en));generalize w.setCell ⟨g,27,J⟩ (G F en)=w1 at*;clear f27 y7 HB hb;have c20:w1.cell? ⟨g,20,J⟩=N (T D.eA D.el.length D.ec):=(HB1.out.cell 20).trans (hD.b O);have c31:w1.cell? ⟨g,31,J⟩=N (av c0):=(HB1.out.cell 31).trans (jr hD.size 4);have f31:w1.frozen? ⟨g,31,J⟩=ag:=HB1.out.frozen 31;obtain⟨bb,o,hA,aX,-,g1,-⟩:=aY.at_ (HE.out.below hb1 (aC _)) hen;rw[hA]at c20;obtain⟨c,hc⟩: ∃ c,D.el[en].cK=c:=⟨_,rfl⟩;rw[hc]at g1;have DR:=I hc;clear hc;go_upto_region 2 with fail
 have HB2:=I ((NR hD.size 4 (av c)) ▸ HB1.out.bZ 31 (av c));have hb2:=hb1.setCell (p:=⟨g,31,J⟩) hg (av c);simp only[Zz,Zs]at HB2;have jl:=I (Wv.out.far 31 (av c));generalize w1.setCell ⟨g,31,J⟩ (av c)=w2 at*;clear g1 c20 c31 f31 HB1 hb1 HE Wv;have d31:w2.drew.cell? ⟨g,31,J⟩=N (av c):=(HB2.out.cell 31).trans (jr hD.size 4);have d0:w2.drew.cell? ⟨g,0,J⟩=N (av D.cur):=(HB2.out.cell 0).trans (hD.b O);have d32:w2.drew.cell? ⟨g,32,J⟩=N (aA b0):=(HB2.out.cell 32).trans (jr hD.size 5);have f32:w2.drew.frozen? ⟨g,32,J⟩=ag:=HB2.out.drew.frozen 32;have hcs:(c.toList==D.cur.toList)=decide (c=D.cur):=Dn _ _;obtain⟨cv,hcv⟩: ∃ x:Bool,Hid (x=decide (c=D.cur)):=⟨_,I rfl⟩;rw[<- hcv.out]at hcs;go_upto_region 2 with fail
 go_region
 all_goals clear d31 d0 d32 f32
 all_goals have HB3:=I ((NR hD.size 5 (aA (!cv))) ▸ HB2.out.bZ 32 (aA (!cv)))
 all_goals have hb3:=hb2.setCell (p:=⟨g,32,J⟩) hg (aA (!cv))
 all_goals simp only[Zz,Zs]at HB3
 all_goals have oD:=I (jl.out.far 32 (aA (!cv)))
 generalize w2.setCell ⟨g,32,J⟩ (aA (!cv))=w3 at*;have hM:=ig.made (P:=ak) (k:=254) (z:=wD (N 0)) w3;have hmm:= @rC ak;have jS:=I (HB3.out.alloc (.map #[] 0));have hb4:=hb3.alloc hb3.size (.map #[] 0);have d30:(w3.alloc (.map #[] 0)).cell? ⟨g,30,J⟩=N k0:=(jS.out.cell 30).trans (jr hD.size 3);have f30:(w3.alloc (.map #[] 0)).frozen? ⟨g,30,J⟩=ag:=jS.out.frozen 30;have gB:=I ((NR hD.size 3 (.map (N w3.heap.size))) ▸ jS.out.bZ 30 (.map (N w3.heap.size)));have hb5:=hb4.setCell (p:=⟨g,30,J⟩) hg (.map (N w3.heap.size));simp only[Zz,Zs]at gB;have hne:w3.heap.size≠g:=by have:=HB3.out.lt;omega
 have hM5:=hM.same (w':=(w3.alloc (.map #[] 0)).setCell ⟨g,30,J⟩ (.map (N w3.heap.size))) (uZ _ _ _ _ hne);have hz:=hb3.size;have DY:=I (((oD.out.alloc (.map #[] 0)).far 30 (.map (N w3.heap.size))).drew);go_wp2_with fail;go_end0;exact⟨rfl,DY.out,w3.heap.size,⟨hg,hz,hb5.drew,by have:=gB.out.drew;rw[hcv.out,<- DR.out]at this;exact this,hM5.same rfl,λ_ _ _ h=>by cases h⟩⟩
end
end
section
open Go.Maps (Keyed)
theorem uk:Keyed ak 70:=Mq (deep_law_laid ai (m:=3) aJ (iY ai) ai ai)
theorem OQ (d:Nat) (hd:0<d) {a:Int} (ha:(jQ .i64 a).wf=ae):(ak).keyLits d 3 [.int .i64 a]=N [.int .i64 a]:=by
 obtain⟨d,rfl⟩: ∃ k,d=k+1:=⟨d - 1,O⟩;unfold Program.keyLits;rw[dh];simp[ha]
def jK (r:aO):aj:= az #[G F r.entry,G F r.line]
theorem abT {a b:aO} (h:jK a=jK b):a=b:=by
 cases a;cases b;unfold jK at h;simpa using h
theorem Dj {r:aO} (ha:Wf r.entry) (hb:Wf r.line): ∃ l,keyOf ak 70 (jK r)=N l:=by
 obtain⟨a,b⟩:=r;have h1:(ak).keyType 70=ae:=ai;have h2:(ak).cellsOf 70=2:=ai;have h3:(ak).cellsOf 3=1:=ai;unfold keyOf jK;rw[PT];simp only[h1,Value.formed,PT,h2,qC];unfold Program.keyLits;rw[PT];simp[h2,h3,Value.cells,OQ _ _ ha,OQ _ _ hb]
open Classical in
noncomputable def mV (S:List aO) (v:aj):Bool:=decide (∃ r∈S,v=jK r)
theorem Pj:mV []=λ_=>ag:=by
 funext v;simp[mV]
theorem LD {S:List aO} {r:aO}:mV S (jK r)=ae↔r∈S:=by
 unfold mV;simp only[dm]
 constructor
 ·rintro⟨x,hx,e⟩;rw[abT e];exact hx
 ·intro h;exact⟨r,h,rfl⟩
theorem abq {S:List aO} {r:aO} (h:r ∉ S):mV S (jK r)=ag:=by
 cases hc:mV S (jK r)
 ·rfl
 ·exact absurd (LD.1 hc) h
theorem LC (S:List aO) (r:aO):mV (S++ [r]) (jK r)=ae:=LD.2 aL
theorem LF (S:List aO) (r:aO) (u:aj) (hu:u≠jK r):mV (S++ [r]) u=mV S u:=by
 unfold mV;rw[qm];simp only[dm,il,iJ]
 constructor
 ·rintro⟨x,hx|rfl,e⟩
  ·exact⟨x,hx,e⟩
  ·exact absurd e hu
 ·rintro⟨x,hx,e⟩;exact⟨x,.inl hx,e⟩
def mE (l:List dz):List aO:=l.flatMap λm=>m.left.l++m.right.l
theorem Pk (l:List dz) (k:Nat) (h:k<l.length):mE (l.take (k+1))=mE (l.take k)++(l[k].left.l++l[k].right.l):=by
 unfold mE;rw[gY h,Ms];simp
def ND (w:Z) (x:dz):Prop:=Wf x.id/\((Rd w w.heap.size 2 x.left.A x.left.l.length (cellsOf aO.cells x.left.l)/\True)/\ ∀ y∈x.left.l,aO.Ok w y)/\((Rd w w.heap.size 2 x.right.A x.right.l.length (cellsOf aO.cells x.right.l)/\True)/\ ∀ y∈x.right.l,aO.Ok w y)/\Wf x.state
theorem ND.step {w w2:Z} {x:dz} (h:ND w x) (hb:Below w.heap.size w w2):ND w2 x:=
 ⟨h.1,⟨⟨Rd.now h.2.1.1.1 hb,trivial⟩,λy hy=>(h.2.1.2 y hy).step hb⟩,⟨⟨Rd.now h.2.2.1.1.1 hb,trivial⟩,λy hy=>(h.2.2.1.2 y hy).step hb⟩,h.2.2.2⟩
structure tN (w:Z) (ms:List dz) (A:Option aG):Prop where
 rd:Rd w w.heap.size 4 A ms.length (cellsOf dz.cells ms)
 ok: ∀ x∈ms,ND w x
 ln: ∀ x∈ms,x.left.l.length<=1000/\x.right.l.length<=1000
 few:ms.length<=1000
theorem tN.step {w w2:Z} {ms:List dz} {A:Option aG} (h:tN w ms A) (hb:Below w.heap.size w w2):tN w2 ms A:=⟨Rd.now h.rd hb,λx hx=>(h.ok x hx).step hb,h.ln,h.few⟩
theorem abr {w:Z} {ms:List dz} {A:Option aG} (h:tN w ms A) (k:Nat):(mE (ms.take k)).length<=2000*k:=by
 induction k with
 |zero=>simp[mE]
 |succ k ih=>
  by_cases hk:k<ms.length
  ·rw[Pk ms k hk];have:=h.ln _ (bP hk);simp only[fK];omega
  ·rw[kS O]at ih |-;omega
def kC (w:Z) (b n:Nat) (S:List aO):Prop:=fw ak 70 4 w b n (mV S)
end
def Eo (es:List aI) (bA:Int) (x:bW):Prop:=
 ∃ y∈es,∃ j:Nat,∃ hj:j<y.lines.l.length,x.ref=⟨y.id,(j:Int)⟩/\y.date<=bA/\x.bF=y.bF/\x.line=y.lines.l[j]
def XM (es:List aI) (bA:Int) (w:Z) (e:eG) (w':Z):Prop:=
 ∃ (v:aj) (L:List bW),e= .returned v/\(∀ x∈L,Eo es bA x)/\L.length<=60000/\w'.ownsRow w.heap.size 176 8 v L.length (cellsOf bW.cells L)/\Below w.heap.size w w'
section
variable (w:Z)
theorem alW (aH:Array aj) (es:List aI) (sA:Option aG) (sc:Nat) (bA:Int) (hz0:aH.size=27) (h21:aH[21]? =N (T sA es.length sc)) (hE:kL w es sA) (hn:es.length<=1000):
 aF ak 132 #[az aH,G F bA] w (XM es bA w):=by
 have HE:=I hE;have hbz:(ak.info? 36).map (·.size)=N aH.size:=by rw[hz0];kernel_rfl
 have hb:Below w.heap.size w (w.alloc (U aH 36)):=(aD _ _).alloc (aC _) _;have HB:=I (au.new w 36 aH);obtain⟨i0,hi0,EU,hz1,hz2'⟩:=jh bW.info;clear hE;unfold XM;go_enter Tryz.func132,Tryz.ntmps132;go_upto_region 1 with fail
 generalize w.alloc (U aH 36)=W at*;have k21:W.cell? ⟨w.heap.size,21,J⟩=N (T sA es.length sc):=(HB.out.cell 21).trans h21;go_wp2_with fail;clear k21 HB;go_loopw [5,13] (λv t wr=> ∃ (k:Nat) (L:List bW),k<=es.length/\t= G F k/\(∀ x∈L,Eo es bA x)/\L.length<=60*k/\wr.ownsRow w.heap.size 176 8 v L.length (cellsOf bW.cells L)/\Below w.heap.size w wr) (λ_ t _=>es.length - (intOf t).toNat)
 case atStart=>exact⟨0,[],O,rfl,aL,aL,jZ _ _ _ _,hb⟩
 case round=>
  clear hb;obtain⟨k,L,hk,rfl,hL,hLn,ho,hb⟩:=hrel;have HO:=I ho;have HL:=I hL;have hz:=hb.size;clear ho hL
  by_cases hlt:k<es.length
  ·obtain⟨b,o,hA,aX,f0,f1,f2,f3,f4,f5,f6⟩:=aI.at_ (Rd.now HE.out.rd hb) hlt;subst hA;have hxl:=HE.out.ln _ (bP hlt);have nQ:=I (bP hlt);have hxo:=HE.out.ok _ (bP hlt);generalize es[k]=x at*;have yM:=I hxo.2.2.2.2.2.2.1;obtain⟨id,en,da,kd,fo,tx,⟨ll,lA,lc⟩⟩:=x;dsimp only[Sl.val]at*;clear hxo;have hst:=(aD wr.heap.size wr).alloc (aC _) (U #[G F id,G F en,G F da,G F kd,G F fo,av tx,T lA ll.length lc] 107);have HX:=I (au.new wr 107 #[G F id,G F en,G F da,G F kd,G F fo,av tx,T lA ll.length lc]);have gm:=I (dF HO.out hst);have hb1:=ay hb hst;clear hst HO;go_upto_region 5 with fail
   generalize hex:wr.heap.size=ex at*;have ZG:w.heap.size<=ex:=O;clear hex;generalize wr.alloc (U #[G F id,G F en,G F da,G F kd,G F fo,av tx,T lA ll.length lc] 107)=wq at*;clear f0 f1 f2 f3 f4 f5 f6;have k2:wq.cell? ⟨ex,2,J⟩=N (G F da):=HX.out.cell 2;have k6:wq.cell? ⟨ex,6,J⟩=N (T lA ll.length lc):=HX.out.cell 6
   cases OD:decide (bA<da)
   case true=>
    go_wp2_with fail;go_roundw
    case rel=>exact⟨k+1,L,O,by go_num,HL.out,O,gm.out,hb1⟩
    case measure=>simp[intOf];omega
   case false=>
    have hdl:=I (j3 OD);go_wp2_with fail;clear k2 k6;go_loopw [5,25] (λv t wr=> ∃ (j:Nat) (L2:List bW),j<=ll.length/\t= G F j/\(∀ x∈L2,Eo es bA x)/\L2.length<=60*k+j/\wr.ownsRow w.heap.size 176 8 v L2.length (cellsOf bW.cells L2)/\au wr ex 107 #[G F id,G F en,G F da,G F kd,G F fo,av tx,T lA ll.length lc]/\Below w.heap.size w wr) (λ_ t _=>ll.length - (intOf t).toNat)
    case atStart=>exact⟨0,L,O,rfl,HL.out,O,gm.out,HX.out,hb1⟩
    case round=>
     clear hb1 gm HX hb HL hLn;obtain⟨j,L2,hj,rfl,hL,hLn,ho,hX,hb⟩:=hrel;have HO:=I ho;have HX:=I hX;have HL:=I hL;have hz2:=hb.size;have apL:=hX.lt;clear ho hX hL
     by_cases hjl:j<ll.length
     ·obtain⟨b2,o2,hA2,qR,g0,g1,g2⟩:=bq.at_ (Rd.now yM.out.1 hb) hjl;subst hA2;have jT:Hid (Eo es bA ⟨⟨id,(j:Int)⟩,da,(k:Int),en,ll[j]⟩):=I ⟨_,nQ.out,j,hjl,rfl,by show da<=bA;have:=hdl.out;omega,rfl,rfl⟩;generalize ll[j]=y at*;obtain⟨y0,y1,y2⟩:=y;dsimp only at*;have hst:=(aD wr.heap.size wr).alloc (aC _) (U #[G F y0,G F y1,G F y2] 131);have gU:=hst.alloc hst.size (U #[G F id,G F (j:Int),G F da,G F (k:Int),G F en,G F y0,G F y1,G F y2] 176);have gJ:=I (dF HO.out gU);have dn:=I (HX.out.step gU);have hb2:=ay hb gU;have k0:(wr.alloc (U #[G F y0,G F y1,G F y2] 131)).cell? ⟨ex,0,J⟩=N (G F id):=(HX.out.step hst).cell 0;have k1:(wr.alloc (U #[G F y0,G F y1,G F y2] 131)).cell? ⟨ex,1,J⟩=N (G F en):=(HX.out.step hst).cell 1;have k2:(wr.alloc (U #[G F y0,G F y1,G F y2] 131)).cell? ⟨ex,2,J⟩=N (G F da):=(HX.out.step hst).cell 2;clear hst HO HX;go_wp2_with (at_builtin;refine yw bW.cells 8 bW.len bW.one rfl (.tmp 30) (.tmp 42) 173 rfl w.heap.size 176 i0 (az #[G F 0,G F 0,G F 0,G F 0,G F 0,G F 0,G F 0,G F 0]) 64 Tryz.underlying173 hi0 EU hz1 hz2' rfl aJ _ L2 rfl gJ.out (wr.heap.size+1) 1 ⟨⟨id,(j:Int)⟩,da,(k:Int),en,⟨y0,y1,y2⟩⟩ #[G F id,G F (j:Int),G F da,G F (k:Int),G F en,G F y0,G F y1,G F y2] rfl (by have:=au.new (wr.alloc (U #[G F y0,G F y1,G F y2] 131)) 176 #[G F id,G F (j:Int),G F da,G F (k:Int),G F en,G F y0,G F y1,G F y2];simpa using this) rfl fQ O bL ?_);intro v7 w7 eQ eU;have fu:Below w.heap.size w w7:=iI hb2 hb2.size gJ.out eU;have Oy:=dn.out.grown eU (gF gJ.out dn.out aJ);have hL7: ∀ x∈L2++ [⟨⟨id,(j:Int)⟩,da,(k:Int),en,⟨y0,y1,y2⟩⟩],Eo es bA x:=λx hx=>by
       rcases il.1 hx with h|h
       ·exact HL.out x h
       ·rw[iJ.1 h];exact jT.out
      have fV:=I hL7;have ny:=I eQ;clear eU eQ hL7;go_wp2_with fail;go_roundw
      case rel=>exact⟨j+1,_,O,by go_num,fV.out,bL,by rw[fK,ow];exact ny.out,Oy,fu⟩
      case measure=>simp[intOf];omega
     ·go_wp2_with fail;go_roundw
      case rel=>exact⟨k+1,L2,O,by go_num,HL.out,O,HO.out,hb⟩
      case measure=>simp[intOf];omega
  ·have ahG:L.length<=60000:=O;have KS:=I (alV O HO.out);go_wp2_with (go_at_call 189;refine KS.out.mono ?_;rintro e w3 ⟨rfl,L3,hp3,ho3,hg3⟩;have hb3:Below w.heap.size w w3:=iI hb O HO.out hg3;have jq:=I ho3;have aP:=I hp3;clear ho3 hp3 hg3);go_ret;exact⟨_,L3,rfl,λx hx=>HL.out x (aP.out.mem_iff.1 hx),by rw[aP.out.length_eq];exact ahG,jq.out,hb3⟩
end
theorem Ag {w:Z} {g:Nat} {t:TypeId} {cs:Array aj} (h:au w g t cs):w.rangeAt g 0 cs.toList:=λj v hv=>by
 rw[nN,h.cell j];simpa using hv
def Gs (e q:Int) (x:bW):Bool:=(x.bF !=e)||(x.line.partner !=q)
section
variable (w:Z)
theorem aeW (x:bW) (e q:Int) (a b:Nat) (ha:w.cell? ⟨a,0,J⟩=N (G F e)) (hb:w.cell? ⟨b,0,J⟩=N (G F q)):
 aF ak 133 #[az x.cells.toArray,aN (N ⟨a,0,J⟩),aN (N ⟨b,0,J⟩)] w (λr w'=>r= .returned (aA (Gs e q x))/\iy w w'):=by
 obtain⟨⟨a0,a1⟩,a2,a3,a4,⟨a5,a6,a7⟩⟩:=x;unfold bW.cells Gs;dsimp only;have h1:(w.alloc (U #[G F a0,G F a1,G F a2,G F a3,G F a4,G F a5,G F a6,G F a7] 176)).cell? ⟨a,0,J⟩=N (G F e):=VH _ ha;have h2:(w.alloc (U #[G F a0,G F a1,G F a2,G F a3,G F a4,G F a5,G F a6,G F a7] 176)).cell? ⟨b,0,J⟩=N (G F q):=VH _ hb;have HG:Hid (iy w (w.alloc (U #[G F a0,G F a1,G F a2,G F a3,G F a4,G F a5,G F a6,G F a7] 176))):=I ((iy.refl w).alloc _);clear ha hb
 cases hc:(a4 !=e)
 ·have hc2:(a4==e)=ae:=by simpa using hc
  go_enter Tryz.func133,Tryz.ntmps133;go_wp2;go_ret;exact⟨by simp[hc],HG.out⟩
 ·go_enter Tryz.func133,Tryz.ntmps133;go_wp2;go_ret;exact⟨by simp[hc],HG.out⟩
theorem afY (g:Nat) (cb:Array aj) (w:Z):aF ak 188 #[T J 0 0,.func (.func g) #[] cb] w (λr w'=>r= bM (G F (-1))/\w'=w):=by
 go_enter Tryz.func188,Tryz.ntmps188;go_wp2;go_loopg [5,8] 0 (λkx _ s8 wr=>s8= G F 0/\wr=w)
 case atStart=>exact⟨rfl,rfl⟩
 case round=>
  obtain⟨rfl,rfl⟩:=hrel;go_wp2;go_ret;exact⟨rfl,rfl⟩
theorem afX (g:Nat) (cb:Array aj) (w:Z):aF ak 131 #[T J 0 0,.func (.func g) #[] cb] w (λr w'=>r= bM (T J 0 0)/\w'=w):=by
 have hi:=afY g cb w;go_enter Tryz.func131,Tryz.ntmps131;go_wp2_with (go_at_call 188;refine hi.mono ?_;rintro e w1 ⟨rfl,rfl⟩);go_ret;exact⟨rfl,rfl⟩
theorem af2 (g:Nat) (cb:Array aj) (w:Z):aF ak 87 #[T J 0 0,.func (.func g) #[] cb] w (λr w'=>r= bM (G F (-1))/\w'=w):=by
 go_enter Tryz.func87,Tryz.ntmps87;go_wp2;go_loopg [5,8] 0 (λkx _ s8 wr=>s8= G F 0/\wr=w)
 case atStart=>exact⟨rfl,rfl⟩
 case round=>
  obtain⟨rfl,rfl⟩:=hrel;go_wp2;go_ret;exact⟨rfl,rfl⟩
theorem af1 (g:Nat) (cb:Array aj) (w:Z):aF ak 47 #[T J 0 0,.func (.func g) #[] cb] w (λr w'=>r= bM (T J 0 0)/\w'=w):=by
 have hi:=af2 g cb w;go_enter Tryz.func47,Tryz.ntmps47;go_wp2_with (go_at_call 87;refine hi.mono ?_;rintro e w1 ⟨rfl,rfl⟩);go_ret;exact⟨rfl,rfl⟩
theorem aeX: ∀ args w,(callFunc 133 args).run ak w= .ok (.enter 133 args) w:=enters_of Tryz.func133 ai rfl
theorem alT {base:Nat} {v:aj} {l:List bW} (hl:l.length<1000000000) (h:w.ownsRow base 176 8 v l.length (cellsOf bW.cells l)) (e q:Int) (a b:Nat) (ta tb:TypeId) (ca:au w a ta #[G F e]) (cb:au w b tb #[G F q]) (na:ta≠176) (nb:tb≠176):
 aF ak 131 #[v,.func (.func 133) #[] #[aN (N ⟨a,0,J⟩),aN (N ⟨b,0,J⟩)]] w
  (λr w'=> ∃ (v2:aj) (l2:List bW),r= .returned v2/\(∀ x∈l2,x∈l/\Gs e q x=ag)/\l2.length<=l.length/\w'.ownsRow base 176 8 v2 l2.length (cellsOf bW.cells l2)/\w.grownBy w' v.ownBlock):=by
 rcases Px bW.len bW.one h with ⟨rfl,rfl⟩|⟨g,cap,rfl,hb,hc,R,S⟩
 ·refine(afX _ _ w).mono ?_;rintro r w' ⟨rfl,rfl⟩;exact⟨_,[],rfl,aL,aL,h,Ig _ _⟩
 ·have hdel:FX ak 133 #[aN (N ⟨a,0,J⟩),aN (N ⟨b,0,J⟩)] bW.cells 8 (Gs e q) (λ_=>True) g 0 l.toArray.size w:=by
   intro dk W hs SW x _;obtain⟨_,hg⟩:=Ht bW.len h rfl R hs rfl SW 0 (lq _);exact aeW W x e q a b (hg.cell (ca.cell 0) (gF h ca na)) (hg.cell (cb.cell 0) (gF h cb nb))
  have hs:=afV bW.cells (Gs e q) (λ_=>True) 133 _ g 0 cap l.toArray l.toArray w w afT aeX hdel (λ_ _=>trivial) R rfl S bL (by simpa using hc) ⟨⟨0,0⟩,0,0,0,⟨0,0,0⟩⟩ rfl;rw[show l.toArray.size=l.length from rfl]at hs;refine hs.mono ?_;rintro r w' ⟨n,dk,rfl,hn,hd,hL,hS⟩;have hd2:dk.size=l.length:=hd;obtain⟨ho,hg⟩:=Ht bW.len h rfl R hd rfl hS n (by rw[hd2];exact hn);have hlen:(dk.toList.take n).length=n:=by rw[jR,oq,hd2];exact Nat.min_eq_left hn
  refine⟨_,dk.toList.take n,rfl,?_,by rw[hlen];exact hn,by rw[hlen];exact ho,hg⟩;intro x hx;obtain⟨t,ht,rfl⟩:=zG hx;rw[hlen]at ht;have:=hL t ht;rw[gG dk t (by rw[hd2];have:n<=l.length:=hn;omega)]at this;rw[yD]
  simpa using this
def VJ (es:List aI) (bA e q:Int) (w:Z) (r:eG) (w':Z):Prop:=
 ∃ (v:aj) (L:List bW),r= .returned v/\(∀ x∈L,Eo es bA x/\x.bF=e/\x.line.partner=q)/\L.length<=60000/\w'.ownsRow w.heap.size 176 8 v L.length (cellsOf bW.cells L)/\Below w.heap.size w w'
theorem aeQ (aH:Array aj) (es:List aI) (sA:Option aG) (sc:Nat) (e q bA:Int) (hz0:aH.size=27) (h21:aH[21]? =N (T sA es.length sc)) (hE:kL w es sA) (hn:es.length<=1000):
 aF ak 88 #[az aH,G F e,G F q,G F bA] w (VJ es bA e q w):=by
 have HE:=I hE;have hbz:(ak.info? 36).map (·.size)=N aH.size:=by rw[hz0];kernel_rfl
 have h27:(ak.info? 36).map (·.size)=N 27:=ai;have hb1:Below w.heap.size w (w.alloc (U aH 36)):=(aD _ _).alloc (aC _) _;have hb2:=hb1.alloc hb1.size (U #[G F e] 3);have hb3:=hb2.alloc hb2.size (U #[G F q] 3);have HB:=I (((au.new w 36 aH).alloc (U #[G F e] 3)).alloc (U #[G F q] 3));have HA:=I ((eT w (U aH 36) 3 #[G F e]).alloc (U #[G F q] 3));have HC:=I (eT (w.alloc (U aH 36)) (U #[G F e] 3) 3 #[G F q]);rw[fG]at HC;have hrg:(((w.alloc (U aH 36)).alloc (U #[G F e] 3)).alloc (U #[G F q] 3)).rangeAt w.heap.size 0 aH.toList:=Ag HB.out;clear hE hb1 hb2;have KP:=I (λW hW=>alW W aH es sA sc bA hz0 h21 hW hn);unfold VJ;go_enter Tryz.func88,Tryz.ntmps88;go_upto_region 1 with fail
 generalize ((w.alloc (U aH 36)).alloc (U #[G F e] 3)).alloc (U #[G F q] 3)=W at*;go_wp2_with (first
  |(refine gP rfl 36 (.tmp 4) rfl w.heap.size 0 rfl aH hrg jB 27 h27 hz0 ?_)
  |(go_at_call 132;refine(KP.out W (HE.out.step hb3)).mono ?_;rintro r w4 ⟨v,L,rfl,hL,hLn,ho,ah⟩;have hw4:=ah.size;have hb4:=ay hb3 ah;have VP:=HA.out.step ah;have zN:=HC.out.step ah;have ko:=I ho;have zQ:=I hL;have KD:=I (alT w4 O ho e q _ _ _ _ VP zN aJ aJ);clear ah VP zN ho hL)
  |(go_at_call 131;refine KD.out.mono ?_;rintro r w5 ⟨v5,L5,rfl,hL5,hn5,nI,hg5⟩;have hb5:=iI hb4 hb4.size (oO ko.out hb3.size) hg5;have qH:=I hL5;have mO:=I (oO nI hb3.size);clear hL5 hg5 nI KD))
 go_ret;refine⟨_,L5,rfl,λx hx=> ?_,O,mO.out,hb5⟩;obtain⟨h1,h2⟩:=qH.out x hx;simp only[Gs,Bool.or_eq_false_iff,bne_eq_false_iff_eq]at h2;exact⟨zQ.out x h1,h2.1,h2.2⟩
end
def pX (es:List aI) (bA e q:Int) (r:aO):Prop:=
 ∃ y∈es,∃ j:Nat,∃ hj:j<y.lines.l.length,r=⟨y.id,(j:Int)⟩/\y.date<=bA/\y.bF=e/\y.lines.l[j].partner=q
theorem aj3 {es:List aI} {bA e q:Int} {x:bW} (h:Eo es bA x/\x.bF=e/\x.line.partner=q):pX es bA e q x.ref:=by
 obtain⟨⟨y,hy,j,hj,h1,h2,h3,h4⟩,h5,h6⟩:=h;exact⟨y,hy,j,hj,h1,h2,h3.symm.trans h5,by rw[<- h4];exact h6⟩
def XF (es:List aI) (bA e q:Int) (w:Z) (r:eG) (w':Z):Prop:=
 ∃ (v:aj) (L:List aO),r= .returned v/\(∀ x∈L,pX es bA e q x)/\L.length<=60000/\w'.ownsRow w.heap.size 70 2 v L.length (cellsOf aO.cells L)/\Below w.heap.size w w'
section
variable (w:Z)
theorem alY (aH:Array aj) (es:List aI) (sA:Option aG) (sc:Nat) (e q bA:Int) (hz0:aH.size=27) (h21:aH[21]? =N (T sA es.length sc)) (hE:kL w es sA) (hn:es.length<=1000):
 aF ak 48 #[az aH,G F e,G F q,G F bA] w (XF es bA e q w):=by
 have HE:=I hE;have hbz:(ak.info? 36).map (·.size)=N aH.size:=by rw[hz0];kernel_rfl
 have h27:(ak.info? 36).map (·.size)=N 27:=ai;have hb1:Below w.heap.size w (w.alloc (U aH 36)):=(aD _ _).alloc (aC _) _;have HB:=I (au.new w 36 aH);have hrg:(w.alloc (U aH 36)).rangeAt w.heap.size 0 aH.toList:=Ag HB.out;have KP:=I (λW hW=>aeQ W aH es sA sc e q bA hz0 h21 hW hn);obtain⟨i0,hi0,EU,hz1,hz2'⟩:=jh aO.info;clear hE HB;unfold XF;go_enter Tryz.func48,Tryz.ntmps48;go_upto_region 2 with fail
 generalize w.alloc (U aH 36)=W at*;go_wp2_with (first
  |(refine gP rfl 36 (.tmp 4) rfl w.heap.size 0 rfl aH hrg jB 27 h27 hz0 ?_)
  |(go_at_call 88;refine(KP.out W (HE.out.step hb1)).mono ?_;rintro r w4 ⟨v,L,rfl,hL,hLn,ho,ah⟩;have hb4:=ay hb1 ah;obtain⟨A4,c4,hv4,hr4⟩:=Rd.dE ho;subst hv4;have HR4:=I hr4;have zQ:=I hL;clear ah ho hL hr4))
 clear hb1 hrg;go_loopw [9,18] (λv t wr=> ∃ (k:Nat) (M:List aO),k<=L.length/\t= G F k/\(∀ x∈M,pX es bA e q x)/\M.length<=k/\wr.ownsRow w4.heap.size 70 2 v M.length (cellsOf aO.cells M)/\Below w4.heap.size w4 wr) (λ_ t _=>L.length - (intOf t).toNat)
 case atStart=>exact⟨0,[],O,rfl,aL,aL,jZ _ _ _ _,aD _ _⟩
 case round=>
  obtain⟨k,M,hk,rfl,hM,hMn,ho,hb⟩:=hrel;have HO:=I ho;have HM:=I hM;have hz:=hb.size;have qV:=hb4.size;clear ho hM
  by_cases hlt:k<L.length
  ·obtain⟨b,o,hA,aX,f0,f1,f2,f3,f4,f5,f6,f7⟩:=bW.at_ (Rd.now HR4.out hb) hlt;subst hA;have BH:=I (aj3 (zQ.out _ (bP hlt)));generalize L[k]=x at*;obtain⟨⟨a0,a1⟩,a2,a3,a4,⟨a5,a6,a7⟩⟩:=x;dsimp only at*;have hst:=(aD wr.heap.size wr).alloc (aC _) (U #[G F a0,G F a1,G F a2,G F a3,G F a4,G F a5,G F a6,G F a7] 176);have gU:=hst.alloc hst.size (U #[G F a0,G F a1] 70);have gJ:=I (dF HO.out gU);have hb2:=ay hb gU;clear hst HO;go_wp2_with (at_builtin;refine yw aO.cells 2 aO.len aO.one rfl (.tmp 22) (.tmp 25) 54 rfl w4.heap.size 70 i0 (az #[G F 0,G F 0]) 16 FD hi0 EU hz1 hz2' rfl aJ _ M rfl gJ.out (wr.heap.size+1) 1 ⟨a0,a1⟩ #[G F a0,G F a1] rfl (by have:=au.new (wr.alloc (U #[G F a0,G F a1,G F a2,G F a3,G F a4,G F a5,G F a6,G F a7] 176)) 70 #[G F a0,G F a1];simpa using this) rfl fQ O bL ?_);intro v7 w7 eQ eU;have Kg: ∀ x∈M++ [⟨a0,a1⟩],pX es bA e q x:=λx hx=>by
    rcases il.1 hx with h|h
    ·exact HM.out x h
    ·rw[iJ.1 h];exact BH.out
   have D5:=I Kg;have ny:=I eQ;have fu:Below w4.heap.size w4 w7:=iI hb2 hb2.size gJ.out eU;clear eU eQ Kg;go_wp2_with fail;go_roundw
   case rel=>exact⟨k+1,_,O,by go_num,D5.out,bL,by rw[fK,ow];exact ny.out,fu⟩
   case measure=>simp[intOf];omega
  ·go_wp2_with fail;go_ret;exact⟨_,M,rfl,HM.out,O,oO HO.out O,ay hb4 hb⟩
end
def XH (ms:List dz) (w:Z) (e:eG) (w':Z):Prop:=
 ∃ (b n:Nat),e= .returned (.map (N b))/\kC w' b n (mE ms)/\w.heap.size<=b/\Below w.heap.size w w'
section
variable (w:Z)
theorem akj (aH:Array aj) (ms:List dz) (mA:Option aG) (mc:Nat) (hz0:aH.size=27) (lK:aH[24]? =N (T mA ms.length mc)) (hM:tN w ms mA):
 aF ak 46 #[az aH] w (XH ms w):=by
 have HM:=I hM;have hbz:(ak.info? 36).map (·.size)=N aH.size:=by rw[hz0];kernel_rfl
 have hb1:Below w.heap.size w (w.alloc (U aH 36)):=(aD _ _).alloc (aC _) _;have HB:=I (au.new w 36 aH);have hmm:= @rC ak;have CQ:=hM.few;clear hM;unfold XH;go_enter Tryz.func46,Tryz.ntmps46;go_upto_region 1 with fail
 generalize w.alloc (U aH 36)=W at*;have kr:Hid (kC (W.alloc (.map #[] 0)) W.heap.size 0 []):=I (by unfold kC;rw[Pj];exact fw.made W);have hb2:=hb1.alloc hb1.size (.map #[] 0);have HB2:=I (HB.out.alloc (.map #[] 0));have hwm:=hb1.size;clear HB;go_upto_region 2 with fail
 generalize W.alloc (.map #[] 0)=W2 at*;generalize W.heap.size=mb at*;clear hb1;have k24:W2.cell? ⟨w.heap.size,24,J⟩=N (T mA ms.length mc):=(HB2.out.cell 24).trans lK;go_wp2_with fail;clear k24 HB2;go_loopw [14] (λt wr=> ∃ k:Nat,k<=ms.length/\t= G F k/\kC wr mb (mE (ms.take k)).length (mE (ms.take k))/\Below w.heap.size w wr) (λt _=>ms.length - (intOf t).toNat)
 case atStart=>exact⟨0,O,rfl,kr.out,hb2⟩
 case round=>
  clear hb2 kr;obtain⟨k,hk,rfl,hS,hb⟩:=hrel;have hz:=hb.size;have HS:=I hS;clear hS
  by_cases hlt:k<ms.length
  ·obtain⟨b,o,hA,aX,f0,f1,f2,f3⟩:=dz.at_ (Rd.now HM.out.rd hb) hlt;subst hA;have hxl:=HM.out.ln _ (bP hlt);have F8:=I (Pk ms k hlt);have hln:=abr HM.out k;obtain⟨_,⟨hl1,hl2⟩,⟨hr1,hr2⟩,_⟩:=HM.out.ok _ (bP hlt);generalize ms[k]=x at*;have rH:=I hl1;have HR1:=I hr1;have HL2:=I hl2;have HR2:=I hr2;clear hl1 hl2 hr1 hr2;obtain⟨id,⟨ll,lA,lc⟩,⟨rl,rA,rc⟩,st⟩:=x;dsimp only[Sl.val]at*;generalize mE (ms.take k)=S0 at*;have hst:=(aD wr.heap.size wr).alloc (aC _) (U #[G F id,T lA ll.length lc,T rA rl.length rc,G F st] 58);have HX:=I (au.new wr 58 #[G F id,T lA ll.length lc,T rA rl.length rc,G F st]);have eP:=I (HS.out.step hst);have hb1:=ay hb hst;clear hst HS;go_upto_region 5 with fail
   generalize hex:wr.heap.size=mx at*;have ZG:w.heap.size<=mx:=O;clear hex;generalize wr.alloc (U #[G F id,T lA ll.length lc,T rA rl.length rc,G F st] 58)=wq at*;clear f0 f1 f2 f3;have k1:wq.cell? ⟨mx,1,J⟩=N (T lA ll.length lc):=HX.out.cell 1;go_wp2_with fail;clear k1;go_loopw [21] (λt wr=> ∃ j:Nat,j<=ll.length/\t= G F j/\kC wr mb (S0++ll.take j).length (S0++ll.take j)/\au wr mx 58 #[G F id,T lA ll.length lc,T rA rl.length rc,G F st]/\Below w.heap.size w wr) (λt _=>ll.length - (intOf t).toNat)
   case atStart=>exact⟨0,O,rfl,by rw[Ql,FU];exact eP.out,HX.out,hb1⟩
   case round=>
    clear hb1 HX eP hb;obtain⟨j,hj,rfl,hS,hX,hb⟩:=hrel;have hz2:=hb.size;have GX:=hX.lt;have HX:=I hX;clear hX
    by_cases hjl:j<ll.length
    ·obtain⟨b2,o2,hA2,qR,g0,g1⟩:=aO.at_ (Rd.now rH.out.1 hb) hjl;subst hA2;obtain⟨w1,w2⟩:=HL2.out _ (bP hjl);have nP:Hid (S0++ll.take (j+1)=(S0++ll.take j)++ [ll[j]]):=I (by rw[gY hjl,Qm]);have GU:(S0++ll.take j).length<=3000000:=by rw[fK,jR];omega
     generalize ll[j]=y at*;obtain⟨kl,hkl⟩:=Dj (r:=y) w1 w2;have HH:=I (LC (S0++ll.take j) y);have HN:=I (LF (S0++ll.take j) y);obtain⟨y0,y1⟩:=y;unfold jK at hkl HH HN;dsimp only at*;have hst:=(aD wr.heap.size wr).alloc (aC _) (U #[G F y0,G F y1] 70);have hS1:=hS.step hst;unfold kC at hS1;have df:=I (HX.out.step hst);have hb1:=ay hb hst;generalize S0++ll.take j=S1 at*;clear hst hS HX;go_wp2_with (at_mapUpdate;refine Bf (mV (S1++ [⟨y0,y1⟩])) rfl _ _ _ 99 rfl uk iX Bn hS1 fQ (az #[G F y0,G F y1]) kl ae hkl rfl rfl rfl HH.out (λu lu _ hu=>HN.out u hu) ?_;intro w6 nY iE;have GN:=df.out.grown iE (λe=>by injection e with e;exact hS1.lI df.out e.symm);have hb6:Below w.heap.size w w6:=ni hb1 iE hb1.size (λj hj=>by injection hj with hj;omega);clear iE hS1);go_roundw
     case rel=>exact⟨j+1,O,by go_num,by rw[nP.out,fK,ow];exact nY,GN,hb6⟩
     case measure=>simp[intOf];omega
    ·have sG:ll.take j=ll:=kS O;have gK:Hid (kC wr mb (S0++ll).length (S0++ll)):=I (by rw[sG]at hS;exact hS);have k2:wr.cell? ⟨mx,2,J⟩=N (T rA rl.length rc):=HX.out.cell 2;have hb1:=hb;have apX:(S0++ll).length<=2002000:=by rw[fK];omega
     clear hS sG;go_wp2_with fail;clear k2;generalize hSL:S0++ll=S2 at*;go_loopw [31] (λt wr=> ∃ j:Nat,j<=rl.length/\t= G F j/\kC wr mb (S2++rl.take j).length (S2++rl.take j)/\au wr mx 58 #[G F id,T lA ll.length lc,T rA rl.length rc,G F st]/\Below w.heap.size w wr) (λt _=>rl.length - (intOf t).toNat)
     case atStart=>exact⟨0,O,rfl,by rw[Ql,FU];exact gK.out,HX.out,hb1⟩
     case round=>
      clear hb1 HX gK hb hz2 GX hjl hj;obtain⟨j,hj,rfl,hS,hX,hb⟩:=hrel;have hz2:=hb.size;have GX:=hX.lt;have HX:=I hX;clear hX
      by_cases hjl:j<rl.length
      ·obtain⟨b2,o2,hA2,qR,g0,g1⟩:=aO.at_ (Rd.now HR1.out.1 hb) hjl;subst hA2;obtain⟨w1,w2⟩:=HR2.out _ (bP hjl);have nP:Hid (S2++rl.take (j+1)=(S2++rl.take j)++ [rl[j]]):=I (by rw[gY hjl,Qm]);have GU:(S2++rl.take j).length<=3000000:=by rw[fK,jR];omega
       generalize rl[j]=y at*;obtain⟨kl,hkl⟩:=Dj (r:=y) w1 w2;have HH:=I (LC (S2++rl.take j) y);have HN:=I (LF (S2++rl.take j) y);obtain⟨y0,y1⟩:=y;unfold jK at hkl HH HN;dsimp only at*;have hst:=(aD wr.heap.size wr).alloc (aC _) (U #[G F y0,G F y1] 70);have hS1:=hS.step hst;unfold kC at hS1;have df:=I (HX.out.step hst);have hb1:=ay hb hst;generalize S2++rl.take j=S1 at*;clear hst hS HX;go_wp2_with (at_mapUpdate;refine Bf (mV (S1++ [⟨y0,y1⟩])) rfl _ _ _ 99 rfl uk iX Bn hS1 fQ (az #[G F y0,G F y1]) kl ae hkl rfl rfl rfl HH.out (λu lu _ hu=>HN.out u hu) ?_;intro w6 nY iE;have GN:=df.out.grown iE (λe=>by injection e with e;exact hS1.lI df.out e.symm);have hb6:Below w.heap.size w w6:=ni hb1 iE hb1.size (λj hj=>by injection hj with hj;omega);clear iE hS1);go_roundw
       case rel=>exact⟨j+1,O,by go_num,by rw[nP.out,fK,ow];exact nY,GN,hb6⟩
       case measure=>simp[intOf];omega
      ·have sG:rl.take j=rl:=kS O;have zZ:Hid (kC wr mb (mE (ms.take (k+1))).length (mE (ms.take (k+1)))):=I (by rw[sG]at hS;rw[F8.out,<- Qm,hSL];exact hS);clear hS sG;go_wp2_with fail;go_roundw
       case rel=>exact⟨k+1,O,by go_num,zZ.out,hb⟩
       case measure=>simp[intOf];omega
  ·have hke:ms.take k=ms:=kS O;rw[hke]at HS;go_wp2_with fail;go_ret;exact⟨mb,_,rfl,HS.out,hwm,hb⟩
end
section
variable (w:Z)
theorem aln (x:aO) (S:List aO) (h mb n:Nat) (h1:Wf x.entry) (h2:Wf x.line) (hh:w.cell? ⟨h,0,J⟩=N (.map (N mb))) (hS:kC w mb n S):
 aF ak 49 #[az x.cells.toArray,aN (N ⟨h,0,J⟩)] w (λr w'=>r= .returned (aA (mV S (jK x)))/\iy w w'):=by
 obtain⟨kl,hkl⟩:=Dj (r:=x) h1 h2;obtain⟨a,b⟩:=x;unfold jK at hkl |-;unfold aO.cells;dsimp only at*;have k1:(w.alloc (U #[G F a,G F b] 70)).cell? ⟨h,0,J⟩=N (.map (N mb)):=VH _ hh;have HG:Hid (iy w (w.alloc (U #[G F a,G F b] 70))):=I ((iy.refl w).alloc _);have iO:=(hS.alloc (U #[G F a,G F b] 70)).look (t:=99) uk iX Bn (uY _) hkl;clear hh hS hkl h1 h2;generalize mV S (az #[G F a,G F b])=R at*;go_enter Tryz.func49,Tryz.ntmps49;go_wp2;go_ret;exact⟨rfl,HG.out⟩
theorem alo: ∀ args w,(callFunc 49 args).run ak w= .ok (.enter 49 args) w:=enters_of Tryz.func49 ai rfl
theorem amH {base:Nat} {v:aj} {l:List aO} (hl:l.length<1000000000) (h:w.ownsRow base 70 2 v l.length (cellsOf aO.cells l)) (hw: ∀ x∈l,Wf x.entry/\Wf x.line) (S:List aO) (b mb n:Nat) (cb:au w b 99 #[.map (N mb)]) (hS:kC w mb n S):
 aF ak 47 #[v,.func (.func 49) #[] #[aN (N ⟨b,0,J⟩)]] w
  (λr w'=> ∃ (v2:aj) (l2:List aO),r= .returned v2/\(∀ x∈l2,x∈l/\x ∉ S)/\l2.length<=l.length/\w'.ownsRow base 70 2 v2 l2.length (cellsOf aO.cells l2)/\w.grownBy w' v.ownBlock):=by
 rcases Px aO.len aO.one h with ⟨rfl,rfl⟩|⟨g,cap,rfl,hb,hc,R,SK⟩
 ·refine(af1 _ _ w).mono ?_;rintro r w' ⟨rfl,rfl⟩;exact⟨_,[],rfl,aL,aL,h,Ig _ _⟩
 ·have hdel:FX ak 49 #[aN (N ⟨b,0,J⟩)] aO.cells 2 (λx=>mV S (jK x)) (λx=>Wf x.entry/\Wf x.line) g 0 l.toArray.size w:=by
   intro dk W hs SW x hx;obtain⟨_,hg⟩:=Ht aO.len h rfl R hs rfl SW 0 (lq _);refine aln W x S b mb n hx.1 hx.2 (hg.cell (cb.cell 0) (gF h cb aJ)) (fw.kept hS hg ?_);obtain⟨es,cl,hm⟩:=fw.isMap hS
   rcases h.2 with ⟨h1,_⟩|⟨g',cap',cur,h1,_,h2,_⟩
   ·cases h1
   ·injection h1 with h1 _ _
    injection h1 with h1
    injection h1 with h1
    intro e;injection e with e
    rw[e,h1,h2]at hm
    cases hm
  have hs:=afZ aO.cells (λx=>mV S (jK x)) (λx=>Wf x.entry/\Wf x.line) 49 _ g 0 cap l.toArray l.toArray w w afU alo hdel (by simpa using hw) R rfl SK bL (by simpa using hc) ⟨0,0⟩ rfl;rw[show l.toArray.size=l.length from rfl]at hs;refine hs.mono ?_;rintro r w' ⟨n,dk,rfl,hn,hd,hL,hS⟩;have hd2:dk.size=l.length:=hd;obtain⟨ho,hg⟩:=Ht aO.len h rfl R hd rfl hS n (by rw[hd2];exact hn);have hlen:(dk.toList.take n).length=n:=by rw[jR,oq,hd2];exact Nat.min_eq_left hn
  refine⟨_,dk.toList.take n,rfl,?_,by rw[hlen];exact hn,by rw[hlen];exact ho,hg⟩;intro x hx;obtain⟨t,ht,rfl⟩:=zG hx;rw[hlen]at ht;have:=hL t ht;rw[gG dk t (by rw[hd2];have:n<=l.length:=hn;omega)]at this;rw[yD];refine⟨by simpa using this.1,λhm=> ?_⟩;have h3:mV S (jK dk[t])=ag:=this.2;simp only[Array.getElem_toList]at hm;rw[LD.2 hm]at h3
  cases h3
theorem C8 {w:Z} {es:List aI} {A:Option aG} (hE:kL w es A) {bA e q:Int} {r:aO} (h:pX es bA e q r):Wf r.entry/\Wf r.line:=by
 obtain⟨y,hy,j,hj,rfl,_⟩:=h;have:=hE.ln y hy;exact⟨(hE.ok y hy).1,LV (by dsimp only;omega) (by dsimp only;omega)⟩
def NF (es:List aI) (ms:List dz) (bA e q:Int) (w:Z) (r:eG) (w':Z):Prop:=
 ∃ (v:aj) (L:List aO),r= .returned v/\(∀ x∈L,pX es bA e q x/\x ∉ mE ms)/\L.length<=60000/\w'.ownsRow w.heap.size 70 2 v L.length (cellsOf aO.cells L)/\Below w.heap.size w w'
theorem abf (aH:Array aj) (es:List aI) (sA:Option aG) (sc:Nat) (ms:List dz) (mA:Option aG) (mc:Nat) (e q bA:Int) (hz0:aH.size=27) (h21:aH[21]? =N (T sA es.length sc)) (hE:kL w es sA) (hn:es.length<=1000) (lK:aH[24]? =N (T mA ms.length mc)) (hM:tN w ms mA):
 aF ak 16 #[az aH,G F e,G F q,G F bA] w (NF es ms bA e q w):=by
 have HE:=I hE;have HM:=I hM;have hbz:(ak.info? 36).map (·.size)=N aH.size:=by rw[hz0];kernel_rfl
 have h27:(ak.info? 36).map (·.size)=N 27:=ai;have hb1:Below w.heap.size w (w.alloc (U aH 36)):=(aD _ _).alloc (aC _) _;have HB:=I (au.new w 36 aH);have hrg:(w.alloc (U aH 36)).rangeAt w.heap.size 0 aH.toList:=Ag HB.out;have KM:=I (λW hW=>akj W aH ms mA mc hz0 lK hW);have KL:=I (λW hW=>alY W aH es sA sc e q bA hz0 h21 hW hn);clear hE hM;unfold NF;go_enter Tryz.func16,Tryz.ntmps16;go_upto_region 1 with fail
 generalize w.alloc (U aH 36)=W at*;go_upto_region 2 with (first
  |(refine gP rfl 36 (.tmp 4) rfl w.heap.size 0 rfl aH hrg jB 27 h27 hz0 ?_)
  |(go_at_call 46;refine(KM.out W (HM.out.step hb1)).mono ?_;rintro r w3 ⟨mb,n,rfl,hS,hmb,ah⟩;have HB3:=I (HB.out.step ah);have hb3:=ay hb1 ah;have gK:=I hS;clear ah hS))
 have Nl:=I (au.new w3 99 #[.map (N mb)]);have jS:=I (HB3.out.alloc (U #[.map (N mb)] 99));have zZ:=I (fw.alloc gK.out (U #[.map (N mb)] 99));have hb4:=hb3.alloc hb3.size (U #[.map (N mb)] 99);generalize w3.alloc (U #[.map (N mb)] 99)=w4 at*;generalize w3.heap.size=qb at*;clear HB HB3 gK hb3 hrg;have hrg:w4.rangeAt w.heap.size 0 aH.toList:=Ag jS.out;go_wp2_with (first
  |(refine gP rfl 36 (.tmp 4) rfl w.heap.size 0 rfl aH hrg jB 27 h27 hz0 ?_)
  |(go_at_call 48;refine(KL.out w4 (HE.out.step hb4)).mono ?_;rintro r w5 ⟨v,L,rfl,hL,hLn,ho,ah⟩;have hb5:=ay hb4 ah;have WL:=Nl.out.step ah;have Jk:=fw.step zZ.out ah;have mO:=I ho;have qH:=I hL;have KD:=I (amH w5 O ho (λx hx=>C8 HE.out (hL x hx)) _ _ _ _ WL Jk);clear ah WL Jk ho hL)
  |(go_at_call 47;refine KD.out.mono ?_;rintro r w6 ⟨v6,L6,rfl,hL6,hn6,ER,iE⟩;have hb6:=iI hb5 hb5.size (oO mO.out hb4.size) iE;have tJ:=I hL6;have zV:=I (oO ER hb4.size);clear hL6 iE ER KD))
 go_ret;exact⟨_,L6,rfl,λx hx=>⟨qH.out x (tJ.out x hx).1,(tJ.out x hx).2⟩,O,zV.out,hb6⟩
end
def XC (L R:List bH) (w:Z) (e:eG) (w':Z):Prop:= ∃ b:Bool,e= .returned (aA b)/\(b=ae↔Mt.nA L R)/\Below w.heap.size w w'
section
variable (w:Z)
theorem aks (L R:List bH) (A1 A2:Option aG) (c1 c2:Nat) (h1:Rd w w.heap.size 3 A1 L.length (cellsOf bH.cells L)) (h2:Rd w w.heap.size 3 A2 R.length (cellsOf bH.cells R)) (hw: ∀ x∈L++R,Wf x.ref.entry/\Wf x.ref.line):
 aF ak 25 #[T A1 L.length c1,T A2 R.length c2] w (XC L R w):=by
 have hb:=aD w.heap.size w;have H1:=I h1;have H2:=I h2;have HW:=I hw;have hmm:= @rC ak;clear h1 h2 hw;unfold XC
 cases n1:decide ((60:Int)<(L.length:Int))
 case true=>
  have HN:Hid (¬ Mt.nA L R):=I (λh=>by have:=iY n1;have:=h.1;omega);go_enter Tryz.func25,Tryz.ntmps25;go_wp2_with fail;go_ret;exact⟨ag,rfl,by simpa using HN.out,hb⟩
 cases n2:decide ((60:Int)<(R.length:Int))
 case true=>
  have HN:Hid (¬ Mt.nA L R):=I (λh=>by have:=iY n2;have:=h.2.1;omega);go_enter Tryz.func25,Tryz.ntmps25;go_wp2_with fail;go_ret;exact⟨ag,rfl,by simpa using HN.out,hb⟩
 have m1:L.length<=60:=by have:=j3 n1;omega
 have m2:R.length<=60:=by have:=j3 n2;omega
 have kr:Hid (kC (w.alloc (.map #[] 0)) w.heap.size 0 []):=I (by unfold kC;rw[Pj];exact fw.made w);have hb1:=hb.alloc (aC _) (.map #[] 0);go_enter Tryz.func25,Tryz.ntmps25;go_upto_region 4 with fail
 clear n1 n2 hb;generalize w.alloc (.map #[] 0)=W at*;obtain⟨C,hC⟩: ∃ C,Hid (C=L++R):=⟨_,I rfl⟩;have xN:=(λg gc gt W1 hg hb=>ae0 L R A1 A2 c1 c2 g gc gt W1 hg (Rd.now H1.out hb) (Rd.now H2.out hb) O O);have Eh:=HW.out;rw[<- hC.out]at xN Eh;have KC:=I xN;have HW:=I Eh;clear xN Eh;have hst:=hb1.alloc hb1.size (U #[T A1 L.length c1,T A2 R.length c2] 42);have HG:=I (au.new W 42 #[T A1 L.length c1,T A2 R.length c2]);have eP:=I (fw.alloc kr.out (U #[T A1 L.length c1,T A2 R.length c2] 42));go_wp2_with (go_at_call 61;refine(KC.out _ _ _ _ HG.out hst).mono ?_;rintro e w3 ⟨A3,c3,rfl,ho3,ah⟩;have hb3:=ay hst ah;have HR3:=I ho3.lies.1;have gK:=I (fw.step eP.out ah);clear ah ho3);clear HG kr eP hb1 hst KC;go_loopw [22] (λt wr=> ∃ k:Nat,k<=C.length/\t= G F k/\(∀ j,j<k->Mt.lN C j)/\kC wr w.heap.size k ((C.take k).map bH.ref)/\Rd wr wr.heap.size 3 A3 C.length (cellsOf bH.cells C)/\Below w.heap.size w wr) (λt _=>C.length - (intOf t).toNat)
 case atStart=>exact⟨0,O,rfl,λj h=>O,gK.out,HR3.out,hb3⟩
 case round=>
  have hln:C.length<=120:=by rw[hC.out,fK];omega
  have Wt:Hid (Mt.nA L R↔ ∀ k,Mt.lN C k):=I (by rw[hC.out];exact⟨λh=>h.2.2,λh=>⟨m1,m2,h⟩⟩);obtain⟨k,hk,rfl,hok,hS,hR,hb⟩:=hrel;clear hb3 gK HR3;have dx:=I hok;have hz:=hb.size;have hmb:=fw.lt hS;clear hok
  by_cases hlt:k<C.length
  ·obtain⟨b,o,hA,aX,f0,f1,f2⟩:=bH.at_ hR hlt;subst hA;obtain⟨w1,w2⟩:=HW.out _ (bP hlt);have HAT:Hid (Mt.lN C k↔(C[k].ref ∉ (C.take k).map bH.ref/\C[k].amount≠0/\C[k].amount<=1000000000000/\ -1000000000000<=C[k].amount)):=I ⟨λh=>h hlt,λh _=>h⟩;have nP:=I (Mt.aoE C k hlt);obtain⟨S,Kl⟩: ∃ S,Hid (S=(C.take k).map bH.ref):=⟨_,I rfl⟩;have Qt:=HAT.out;have Ef:=nP.out;rw[<- Kl.out]at hS Qt Ef;clear HAT nP Kl;have HAT:=I Qt;have nP:=I Ef;clear Qt Ef;generalize C[k]=x at*;obtain⟨kl,hkl⟩:=Dj (r:=x.ref) w1 w2;obtain⟨⟨x0,x1⟩,am⟩:=x;have eH:Hid (¬ Mt.lN C k-> ¬ Mt.nA L R):=I (λh h2=>h (Wt.out.1 h2 k));have HH:=I (LC S ⟨x0,x1⟩);have HN:=I (LF S ⟨x0,x1⟩);have hst:=(aD wr.heap.size wr).alloc (aC _) (U #[G F x0,G F x1,G F am] 74);have hS1:=fw.step hS hst;have hb1:=ay hb hst;have oI:=I (Rd.now hR hst);have iO:=hS1.look (t:=99) uk iX Bn (uY _) hkl;unfold jK at hkl HH HN iO;dsimp only at*;clear hst hS w1 w2 hR
   cases hq:mV S (az #[G F x0,G F x1])
   case true=>
    rw[hq]at iO;have HF:Hid (¬ Mt.nA L R):=I (eH.out (λh=>(HAT.out.1 h).1 (LD.1 hq)));clear hq;go_wp2_with fail;go_ret;exact⟨ag,rfl,by simpa using HF.out,hb1⟩
   rw[hq]at iO;have HQ:Hid ((⟨x0,x1⟩:aO) ∉ S):=I (λh=>by have:=LD.2 h;unfold jK at this;dsimp only at this;rw[hq]at this;cases this);clear hq
   cases a0:(am==0)
   case true=>
    have HF:Hid (¬ Mt.nA L R):=I (eH.out (λh=>(HAT.out.1 h).2.1 (by simpa using a0)));go_wp2_with fail;go_ret;exact⟨ag,rfl,by simpa using HF.out,hb1⟩
   cases a1:decide (1000000000000<am)
   case true=>
    have HF:Hid (¬ Mt.nA L R):=I (eH.out (λh=>by have:=(HAT.out.1 h).2.2.1;have:=iY a1;omega));go_wp2_with fail;go_ret;exact⟨ag,rfl,by simpa using HF.out,hb1⟩
   cases a2:decide (am< -1000000000000)
   case true=>
    have HF:Hid (¬ Mt.nA L R):=I (eH.out (λh=>by have:=(HAT.out.1 h).2.2.2;have:=iY a2;omega));go_wp2_with fail;go_ret;exact⟨ag,rfl,by simpa using HF.out,hb1⟩
   have D7:Hid (∀ j,j<k+1->Mt.lN C j):=I (λj hj=>by
    rcases Bi j k with h|h
    ·exact dx.out j h
    ·rw[show j=k from O];refine HAT.out.2 ⟨HQ.out,by simpa using a0,?_,?_⟩
     ·have:=j3 a1;omega
     ·have:=j3 a2;omega)
   unfold kC at*;go_wp2_with (at_mapUpdate;refine Bf (mV (S++ [⟨x0,x1⟩])) rfl _ _ _ 99 rfl uk iX Bn hS1 fQ (az #[G F x0,G F x1]) kl ae hkl rfl rfl rfl HH.out (λu lu _ hu=>HN.out u hu) ?_;intro w6 nY iE;have Kj:=(oI.out.past iE hS1.isMap).more iE.size;have hb6:Below w.heap.size w w6:=ni hb1 iE hb1.size (λj hj=>by injection hj with hj;omega);clear iE hS1 iO);go_roundw
   case rel=>exact⟨k+1,O,by go_num,D7.out,by rw[nP.out];exact nY,Kj,hb6⟩
   case measure=>simp[intOf];omega
  ·have Qs:Hid (Mt.nA L R):=I (Wt.out.2 (λj h=>dx.out j O h));go_wp2_with fail;go_ret;exact⟨ae,rfl,by simpa using Qs.out,hb⟩
end
def sI (i:bI):aj:= az i.cells.toArray
open Classical in
noncomputable def mU (items:List bI) (v:aj):Option aj:=(items.find? (λi=>decide (jK i.ref=v))).map sI
theorem ajb (items:List bI) (r:aO):mU items (jK r)=(El.find items r).map sI:=by
 unfold mU El.find
 congr 2
 funext i
 rw[qm];simp only[dm,El.aaj];exact⟨abT,λh=>by rw[h]⟩
theorem ai9:mU []=λ_=>J:=by funext v;simp[mU]
theorem aja {items:List bI} {k:Nat} (hk:k<items.length) {x:aj} (h:mU (items.take k) (jK items[k].ref)=N x):mU (items.take (k+1))=mU (items.take k):=by
 funext v
 unfold mU at h |-;rw[gY hk,Qd]
 by_cases hv:jK items[k].ref=v
 ·subst hv;simp only[P6]at h;obtain⟨a,ha,_⟩:=h;rw[ha]
  rfl
 ·simp[hv]
theorem ai8 {items:List bI} {k:Nat} (hk:k<items.length) (h:mU (items.take k) (jK items[k].ref)=J):mU (items.take (k+1)) (jK items[k].ref)=N (sI items[k]):=by
 unfold mU at h |-;rw[gY hk,Qd];simp only[Option.map_eq_none_iff]at h;rw[h];simp
theorem ai7 {items:List bI} {k:Nat} (hk:k<items.length) {v:aj} (hv:v≠jK items[k].ref):mU (items.take (k+1)) v=mU (items.take k) v:=by
 unfold mU;rw[gY hk,Qd];simp[pK hv]
theorem alQ (items:List bI) (C:List aO) (k:Nat) (hk:k<C.length):(C.take (k+1)).map (El.pk items)=(C.take k).map (El.pk items)++ [El.pk items C[k]]:=by
 rw[gY hk,mJ];rfl
theorem aoy (l:List bI) (k:Nat) (hk:k<l.length):El.lQ (l.take (k+1))=El.lQ (l.take k)+l[k].amount:=by
 rw[gY hk,El.acb];simp[El.lQ]
end Go.Proofs.YtbedbfdhfokifaaGreat
