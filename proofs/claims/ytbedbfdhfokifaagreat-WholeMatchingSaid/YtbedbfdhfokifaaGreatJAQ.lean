/- Part of the proof of WholeMatching. -/
import Derived.Test.YtbedbfdhfokifaaGreatJAL
import Derived.Test.YtbedbfdhfokifaaGreatJAM
import Derived.Test.YtbedbfdhfokifaaGreatJAN
namespace Go.Proofs.YtbedbfdhfokifaaGreat
set_option maxRecDepth 100000
set_option maxHeartbeats 16000000
set_option linter.unusedVariables false
set_option linter.unusedSimpArgs false
open _root_.Bool renaming true->ae,false->ag
open Go renaming World->Z,Calls->aF,Addr->aG,Value->aj,maxLen->bK
open Go.IntKind renaming i64->F
open Go.Lit renaming int->jQ
open Go.Obj renaming cells->U
open Go.Proofs.Tryz renaming prog->ak
open Go.Value renaming int->G,slice->T,bool->aA,pointer->aN,string->av,agg->az
open _root_.Option renaming none->J,some->N
open Go.RowKit
theorem YF {α:Type} (q:α->Bool) (l:List α):decide (0<=iN q l)=l.any q:=by
 unfold iN
 cases hf:l.findIdx? q with
 |none=>
  rw[Io]at hf;have:l.any q=ag:=by rw[uy];intro x hx;simpa using hf x hx
  rw[this];rfl
 |some k=>
  rw[Im]at hf;obtain⟨hk,h1,-⟩:=hf;have:l.any q=ae:=by rw[vG];exact⟨l[k],bP hk,h1⟩
  rw[this];simp
def wP (a:Acc):Bool:= !Gr.uJ a
theorem aoQ (l:List Acc):l.any wP= !Gr.Af l:=by
 rw[qm];unfold Gr.Af wP
 cases h:iZ l.length λk=>Gr.uJ (l.getD k Ch.zero)
 ·simp only[Bool.not_false,iff_true];apply Vy;intro hn;rw[qo,uy]at hn;have:iZ l.length (λk=>Gr.uJ (l.getD k Ch.zero))=ae:=nT λj hj=>by
   have:=hn l[j] (bP hj);rw[Ch.getD_at l j hj]
   simpa using this
  rw[this]at h
  cases h
 ·simp only[Bool.not_true,zI,iff_false,qo];rw[uy];intro x hx;obtain⟨j,hj,rfl⟩:=iK.1 hx;have:=tO h hj;rw[Ch.getD_at l j hj]at this;simp[this]
theorem afs (R:List eY) (k:Nat) (hk:k<R.length):decide (R[k].code∈(R.take k).map eY.code)=Gr.rX R k:=by
 unfold Gr.rX;rw[getD_lt R k default hk,qm];simp only[dm,iW,vG,vD]
theorem afv (R:List eY) (k:Nat) (hk:k<R.length):(R.take (k+1)).map eY.code=(R.take k).map eY.code++ [R[k].code]:=by
 rw[gY hk,mJ];rfl
theorem aeg (a:Acc) (w:Z):aF ak 168 #[az #[G F a.code,G F a.kind,G F a.basis,G F a.parent]] w (fD (wP a) w):=by
 have hb:Below w.heap.size w (w.alloc (U #[G F a.code,G F a.kind,G F a.basis,G F a.parent] 212)):=(aD _ _).alloc (aC _) _;have HB:=I hb;clear hb;have HD:Hid (wP a= !Gr.uJ a):=I rfl;go_enter Tryz.func168,Tryz.ntmps168;go_wp2_with (go_at_call 169;refine(aeK a _).mono ?_;rintro e w2 ⟨rfl,hb2⟩);go_ret;exact⟨by rw[HD.out];rfl,ay HB.out hb2⟩
theorem aiP (l:List Acc) (A:Option aG) (lc:Nat) (w:Z) (hr:Rd w w.heap.size 4 A l.length (Ch.cells l)) (hn:l.length<=1000000)
 (hc: ∀ (a:Acc) (W:Z),Below w.heap.size w W->aF ak 168 #[az #[G F a.code,G F a.kind,G F a.basis,G F a.parent]] W (fD (wP a) W)):
 aF ak 163 #[T A l.length lc,.func (.func 168) #[] #[]] w (λe w'=>e= .returned (G F (iN (wP) l))/\Below w.heap.size w w'):=by
 have hb:=aD w.heap.size w;have HR:=I hr;have HC:=I hc;clear hr hc;go_enter Tryz.func163,Tryz.ntmps163;go_wp2_with fail;go_loopw [5,8] (λ_ t wr=> ∃ k:Nat,k<=l.length/\(∀ j (h:j<k) (h1:j<l.length),wP (l[j]'h1)=ag)/\t= G F k/\Below w.heap.size w wr) (λ_ t _=>l.length - (intOf t).toNat)
 case atStart=>exact⟨0,O,λj h=>O,rfl,hb⟩
 case round=>
  clear hb;obtain⟨k,hk,hno,rfl,hb⟩:=hrel;have HN:=I hno;clear hno
  by_cases hlt:k<l.length
  ·obtain⟨b,o,hA,aX,f0,f1,f2,f3⟩:=Ch.at_ (HR.out.below hb (aC _)) hlt;subst hA
   cases hq:wP l[k]
   ·have HQ:=I hq;go_wp2_with (go_at_call 168;refine((HC.out l[k] _ hb)).mono ?_;rintro e w2 ⟨rfl,hb2⟩;replace hb:=ay hb hb2;clear hb2);go_roundw
    case rel=>
     refine⟨k+1,O,λj h h1=> ?_,by go_num,hb⟩
     by_cases e:j=k
     ·subst e;exact HQ.out
     ·exact HN.out j O h1
    case measure=>simp[intOf];omega
   ·have HE:Hid (iN (wP) l=k):=I (Cs k hlt (λj hj=>HN.out j hj O) hq);go_wp2_with (go_at_call 168;refine((HC.out l[k] _ hb)).mono ?_;rintro e w2 ⟨rfl,hb2⟩;replace hb:=ay hb hb2;clear hb2);go_ret;exact⟨jg HE.out.symm,hb⟩
  ·have HE:Hid (iN (wP) l= -1):=I (Gy λj hj=>HN.out j O hj);go_wp2_with fail;go_ret;exact⟨jg HE.out.symm,hb⟩
theorem Zt (l:List Acc) (A:Option aG) (lc:Nat) (w:Z) (hr:Rd w w.heap.size 4 A l.length (Ch.cells l)) (hn:l.length<=1000000):
 aF ak 167 #[T A l.length lc,.func (.func 168) #[] #[]] w (fD (!Gr.Af l) w):=by
 have HR:=I hr;have HE:=I ((aoQ l).symm.trans (YF wP l).symm);clear hr;generalize (!Gr.Af l)=v at*;have K:=I (λW h=>aiP l A lc W h hn (λa W' _=>aeg a W'));generalize iN wP l=i at*
 by_cases h0:0<=i
 ·go_enter Tryz.func167,Tryz.ntmps167;go_wp2_with (go_at_call 163;refine(K.out _ HR.out).mono ?_;rintro e w2 ⟨rfl,hb2⟩);go_ret;exact⟨by rw[HE.out];simp[h0],hb2⟩
 ·go_enter Tryz.func167,Tryz.ntmps167;go_wp2_with (go_at_call 163;refine(K.out _ HR.out).mono ?_;rintro e w2 ⟨rfl,hb2⟩);go_ret;exact⟨by rw[HE.out];simp[h0],hb2⟩
theorem BS {ch:List Acc} {R:List eY} {k:Nat} (hk:k<R.length) (h:Gr.uW ch R k=ag):Gr.lH ch R=ag:=by
 unfold Gr.lH Gr.Dk;rw[kD hk h];simp
section
variable (aB:Array aj) (cur:ByteArray) (y m p:Int) (cl:List Acc) (cA:Option aG) (cc:Nat) (ro:dZ) (el:List aY) (eA:Option aG) (ec:Nat) (w:Z)
theorem JB (HG:Hid (aB= #[av cur,G F y,G F m,G F p,T cA cl.length cc,G F ro.dU,G F ro.dR,G F ro.dO,G F ro.inventory,G F ro.reserve,G F ro.dV,G F ro.dJ,G F ro.acquired,G F ro.dX,G F ro.dP,G F ro.dN,G F ro.dQ,G F ro.dW,G F ro.difference,G F ro.dL,T eA el.length ec])) (h:eB w cl cA el eA) (hn:cl.length<=300000):aF ak 123 #[az aB] w (fD (Gr.lH cl (Gr.dG ro)) w):=by
 have H:=I h;clear h;have hb:Below w.heap.size w (w.alloc (U aB 29)):=(aD _ _).alloc (aC _) _;have HB:=I (au.new w 29 aB);have e4:(w.alloc (U aB 29)).cell? ⟨w.heap.size,4,J⟩=N (T cA cl.length cc):=(HB.out.cell 4).trans aQ;have hmm:= @rC ak
 cases hv:Ch.mG cl ae
 ·have HE:Hid (Gr.lH cl (Gr.dG ro)=ag):=I (by unfold Gr.lH;rw[hv];rfl);have HV:=I hv;clear hv;go_enter Tryz.func123,Tryz.ntmps123;go_wp2_with
   (go_at_call 166;refine(zz cl ae cA cc _ (H.out.step hb).ch hn H.out.wf).mono ?_;rintro e w2 ⟨rfl,hb2⟩;replace hb:=ay hb hb2;rw[HV.out];have HB2:=I (HB.out.step hb2);have e42:w2.cell? ⟨w.heap.size,4,J⟩=N (T cA cl.length cc):=(HB2.out.cell 4).trans aQ)
  go_ret;exact⟨by rw[HE.out];rfl,hb⟩
 ·have HV:=I hv
  cases Kq:Gr.Af cl
  ·have HE:Hid (Gr.lH cl (Gr.dG ro)=ag):=I (by unfold Gr.lH;rw[Kq];simp);have vJ:=I Kq;clear hv Kq;go_enter Tryz.func123,Tryz.ntmps123;go_wp2_with (first
    |(go_at_call 166;refine(zz cl ae cA cc _ (H.out.step hb).ch hn H.out.wf).mono ?_;rintro e w2 ⟨rfl,hb2⟩;replace hb:=ay hb hb2;rw[HV.out];have HB2:=I (HB.out.step hb2);have e42:w2.cell? ⟨w.heap.size,4,J⟩=N (T cA cl.length cc):=(HB2.out.cell 4).trans aQ)
    |(go_at_call 167;refine(Zt cl cA cc _ (H.out.step hb).ch O).mono ?_;rintro e w3 ⟨rfl,hb3⟩;replace hb:=ay hb hb3;rw[vJ.out];have HB3:=I ((HB2.out.step hb3).alloc (.map #[] 0));have g5:(w3.alloc (.map #[] 0)).cell? ⟨w.heap.size,5,J⟩=N (G F ro.dU):=(HB3.out.cell 5).trans aQ;have g6:(w3.alloc (.map #[] 0)).cell? ⟨w.heap.size,6,J⟩=N (G F ro.dR):=(HB3.out.cell 6).trans aQ;have g7:(w3.alloc (.map #[] 0)).cell? ⟨w.heap.size,7,J⟩=N (G F ro.dO):=(HB3.out.cell 7).trans aQ;have g8:(w3.alloc (.map #[] 0)).cell? ⟨w.heap.size,8,J⟩=N (G F ro.inventory):=(HB3.out.cell 8).trans aQ;have g9:(w3.alloc (.map #[] 0)).cell? ⟨w.heap.size,9,J⟩=N (G F ro.reserve):=(HB3.out.cell 9).trans aQ;have g10:(w3.alloc (.map #[] 0)).cell? ⟨w.heap.size,10,J⟩=N (G F ro.dV):=(HB3.out.cell 10).trans aQ;have g11:(w3.alloc (.map #[] 0)).cell? ⟨w.heap.size,11,J⟩=N (G F ro.dJ):=(HB3.out.cell 11).trans aQ;have g12:(w3.alloc (.map #[] 0)).cell? ⟨w.heap.size,12,J⟩=N (G F ro.acquired):=(HB3.out.cell 12).trans aQ;have g13:(w3.alloc (.map #[] 0)).cell? ⟨w.heap.size,13,J⟩=N (G F ro.dX):=(HB3.out.cell 13).trans aQ;have g14:(w3.alloc (.map #[] 0)).cell? ⟨w.heap.size,14,J⟩=N (G F ro.dP):=(HB3.out.cell 14).trans aQ;have g15:(w3.alloc (.map #[] 0)).cell? ⟨w.heap.size,15,J⟩=N (G F ro.dN):=(HB3.out.cell 15).trans aQ;have g16:(w3.alloc (.map #[] 0)).cell? ⟨w.heap.size,16,J⟩=N (G F ro.dQ):=(HB3.out.cell 16).trans aQ;have g17:(w3.alloc (.map #[] 0)).cell? ⟨w.heap.size,17,J⟩=N (G F ro.dW):=(HB3.out.cell 17).trans aQ;have g18:(w3.alloc (.map #[] 0)).cell? ⟨w.heap.size,18,J⟩=N (G F ro.difference):=(HB3.out.cell 18).trans aQ;have g19:(w3.alloc (.map #[] 0)).cell? ⟨w.heap.size,19,J⟩=N (G F ro.dL):=(HB3.out.cell 19).trans aQ))
   go_ret;exact⟨by rw[HE.out];rfl,hb⟩
  ·have vJ:=I Kq;clear hv Kq;go_enter Tryz.func123,Tryz.ntmps123;go_wp2_with (first
    |(go_at_call 166;refine(zz cl ae cA cc _ (H.out.step hb).ch hn H.out.wf).mono ?_;rintro e w2 ⟨rfl,hb2⟩;replace hb:=ay hb hb2;rw[HV.out];have HB2:=I (HB.out.step hb2);have e42:w2.cell? ⟨w.heap.size,4,J⟩=N (T cA cl.length cc):=(HB2.out.cell 4).trans aQ)
    |(go_at_call 167;refine(Zt cl cA cc _ (H.out.step hb).ch O).mono ?_;rintro e w3 ⟨rfl,hb3⟩;replace hb:=ay hb hb3;rw[vJ.out];have HB3:=I ((HB2.out.step hb3).alloc (.map #[] 0));have g5:(w3.alloc (.map #[] 0)).cell? ⟨w.heap.size,5,J⟩=N (G F ro.dU):=(HB3.out.cell 5).trans aQ;have g6:(w3.alloc (.map #[] 0)).cell? ⟨w.heap.size,6,J⟩=N (G F ro.dR):=(HB3.out.cell 6).trans aQ;have g7:(w3.alloc (.map #[] 0)).cell? ⟨w.heap.size,7,J⟩=N (G F ro.dO):=(HB3.out.cell 7).trans aQ;have g8:(w3.alloc (.map #[] 0)).cell? ⟨w.heap.size,8,J⟩=N (G F ro.inventory):=(HB3.out.cell 8).trans aQ;have g9:(w3.alloc (.map #[] 0)).cell? ⟨w.heap.size,9,J⟩=N (G F ro.reserve):=(HB3.out.cell 9).trans aQ;have g10:(w3.alloc (.map #[] 0)).cell? ⟨w.heap.size,10,J⟩=N (G F ro.dV):=(HB3.out.cell 10).trans aQ;have g11:(w3.alloc (.map #[] 0)).cell? ⟨w.heap.size,11,J⟩=N (G F ro.dJ):=(HB3.out.cell 11).trans aQ;have g12:(w3.alloc (.map #[] 0)).cell? ⟨w.heap.size,12,J⟩=N (G F ro.acquired):=(HB3.out.cell 12).trans aQ;have g13:(w3.alloc (.map #[] 0)).cell? ⟨w.heap.size,13,J⟩=N (G F ro.dX):=(HB3.out.cell 13).trans aQ;have g14:(w3.alloc (.map #[] 0)).cell? ⟨w.heap.size,14,J⟩=N (G F ro.dP):=(HB3.out.cell 14).trans aQ;have g15:(w3.alloc (.map #[] 0)).cell? ⟨w.heap.size,15,J⟩=N (G F ro.dN):=(HB3.out.cell 15).trans aQ;have g16:(w3.alloc (.map #[] 0)).cell? ⟨w.heap.size,16,J⟩=N (G F ro.dQ):=(HB3.out.cell 16).trans aQ;have g17:(w3.alloc (.map #[] 0)).cell? ⟨w.heap.size,17,J⟩=N (G F ro.dW):=(HB3.out.cell 17).trans aQ;have g18:(w3.alloc (.map #[] 0)).cell? ⟨w.heap.size,18,J⟩=N (G F ro.difference):=(HB3.out.cell 18).trans aQ;have g19:(w3.alloc (.map #[] 0)).cell? ⟨w.heap.size,19,J⟩=N (G F ro.dL):=(HB3.out.cell 19).trans aQ))
   have aiE:=(HB2.out.step hb3).lt;clear e4 e42 g5 g6 g7 g8 g9 g10 g11 g12 g13 g14 g15 g16 g17 g18 g19 HB HB2 hb2 hb3;have xW:=iH.made (P:=ak) (k:=3) (e:=4) w3;have hb4:=hb.alloc hb.size (.map #[] 0);have qV:w3.heap.size<(w3.alloc (.map #[] 0)).heap.size:=aL;generalize mh:w3.alloc (.map #[] 0)=W at*;clear mh hb;refine(abL ro W).mono ?_;rintro e w4 ⟨A,lc,rfl,hr,ah⟩;have hb:=ay hb4 ah;have TQ:(Gr.dG ro).length<=15:=Qj (Gr.Pq ro);generalize Gr.dG ro=R at*;have HR:=I hr;have jS:=I (HB3.out.step ah);have zZ:=I (xW.step ah);have AA:=ji qV ah.size;clear hr ah HB3 xW hb4 qV;go_wp2_with fail;go_loopw [22] (λt wr=> ∃ k:Nat,k<=R.length/\(∀ j,j<k->Gr.uW cl R j=ae)/\t= G F k/\iH ak 3 4 wr w3.heap.size k ((R.take k).map eY.code)/\au wr w.heap.size 29 aB/\Rd wr wr.heap.size 5 A R.length (cellsOf eY.cells R)/\Below w.heap.size w wr) (λt _=>R.length - (intOf t).toNat)
   case atStart=>exact⟨0,O,λj h=>O,rfl,zZ.out,jS.out,HR.out,hb⟩
   case round=>
    clear zZ jS HR hb;obtain⟨k,hk,hno,rfl,hS,hB,hRr,hb⟩:=hrel;have HN:=I hno;have HRr:=I hRr;have hz:=hb.size;clear hno
    by_cases hlt:k<R.length
    ·obtain⟨b,o,hA,aX,f0,f1,f2,f3,f4⟩:=eY.at_ hRr hlt;subst hA;have HX:Hid (Gr.uW cl R k=(Ch.eO cl R[k].code&&(!Gr.rX R k&&(decide ((Ch.bU cl R[k].code).kind=R[k].kind)&&decide ((Ch.bU cl R[k].code).basis=R[k].basis))))):=I (by unfold Gr.uW;rw[getD_lt R k default hlt]);have HC:=I (afs R k hlt);have HT:=I (afv R k hlt);generalize R[k]=x at*;obtain⟨nm,c,kd,bs,mp⟩:=x;dsimp only at*;have hwd:Hid (Ch.eO cl c=ae->(jQ .i64 c).wf=ae):=I (λhf=>by
      unfold Ch.eO at hf;rw[Option.isSome_iff_exists]at hf;obtain⟨a,ha⟩:=hf;obtain⟨h1,h2⟩:=Ch.GA cl c a ha;rw[<- h2];exact H.out.wf a h1)
     have K1:=I (λW h=>Gz cl c cA cc W h hn);generalize Ch.bU cl c=a at*;have hB1:=hB.alloc (U #[av nm,G F c,G F kd,G F bs,aA mp] 268);have e4:(wr.alloc (U #[av nm,G F c,G F kd,G F bs,aA mp] 268)).cell? ⟨w.heap.size,4,J⟩=N (T cA cl.length cc):=(hB1.cell 4).trans aQ;have HB1:=I hB1;have vS:=I (au.new wr 268 #[av nm,G F c,G F kd,G F bs,aA mp]);have eP:=I (hS.alloc (U #[av nm,G F c,G F kd,G F bs,aA mp] 268));have HR1:=I (Rd.now HRr.out ((aD wr.heap.size wr).alloc (aC _) (U #[av nm,G F c,G F kd,G F bs,aA mp] 268)));have hb1:=hb.alloc hz (U #[av nm,G F c,G F kd,G F bs,aA mp] 268);clear hB1 hS hB hRr;go_wp2_with fail;clear e4 f0 f1 f2 f3 f4 hb;generalize mh:wr.alloc (U #[av nm,G F c,G F kd,G F bs,aA mp] 268)=W1 at*;clear mh;refine(K1.out W1 (H.out.step hb1).ch).mono ?_;rintro e w5 ⟨rfl,ah⟩;have hb6:=(ay hb1 ah).alloc (ay hb1 ah).size (U #[G F a.code,G F a.kind,G F a.basis,G F a.parent] 212);have mK:=I ((HB1.out.step ah).alloc (U #[G F a.code,G F a.kind,G F a.basis,G F a.parent] 212));have Ov:=(vS.out.step ah).alloc (U #[G F a.code,G F a.kind,G F a.basis,G F a.parent] 212);have nY:=(eP.out.step ah).alloc (U #[G F a.code,G F a.kind,G F a.basis,G F a.parent] 212);have Gc:=I (Rd.now HR1.out (ah.alloc ah.size (U #[G F a.code,G F a.kind,G F a.basis,G F a.parent] 212)));have g1:(w5.alloc (U #[G F a.code,G F a.kind,G F a.basis,G F a.parent] 212)).cell? ⟨wr.heap.size,1,J⟩=N (G F c):=Ov.cell 1;have g2:(w5.alloc (U #[G F a.code,G F a.kind,G F a.basis,G F a.parent] 212)).cell? ⟨wr.heap.size,2,J⟩=N (G F kd):=Ov.cell 2;have g3:(w5.alloc (U #[G F a.code,G F a.kind,G F a.basis,G F a.parent] 212)).cell? ⟨wr.heap.size,3,J⟩=N (G F bs):=Ov.cell 3;have Kr:=aD w.heap.size w;replace Kr:=hb6;have hb:=aD w.heap.size w;clear ah HB1 vS eP HR1 hb1 Ov K1;have hg:True:=trivial
     cases hf:Ch.eO cl c
     ·have HE:Hid (Gr.lH cl R=ag):=I (BS hlt (by rw[HX.out,hf];rfl));go_wp2_with fail;go_ret;exact⟨by rw[HE.out];rfl,ay hb Kr⟩
     ·have hw2:=hwd.out hf;have iO:=nY.look (t:=98) dh iX wR (uY _) hw2;rw[HC.out]at iO
      cases hg:Gr.rX R k
      ·rw[hg]at iO;have hf0:=hf
       cases hk:(a.kind !=kd)
       ·cases hs:(a.basis !=bs)
        ·have HO:Hid (Gr.uW cl R k=ae):=I (by rw[HX.out];simp at hk hs;simp[hf,hg,hk,hs]);have HF:=I hf;clear hf hg hf0;go_wp2_with (at_mapUpdate;refine Vo rfl _ _ _ 98 rfl dh iX wR nY fQ c hw2 rfl rfl rfl ?_;intro w7 Kk eU);have j6:=mK.out.grown eU bL;have fu:Below w.heap.size w w7:=ni hb6 eU hb6.size (λj hj=>by injection hj with hj;omega);have hR7:Rd w7 w7.heap.size 5 (N ⟨b,o,J⟩) R.length (cellsOf eY.cells R):=(Gc.out.past eU nY.isMap).more eU.size;rw[<- HT.out]at Kk;clear eU nY g1 g2 g3;go_wp2_with fail;go_roundw
         case rel=>
          refine⟨k+1,O,λj hj=> ?_,by go_num,Kk,j6,hR7,fu⟩
          by_cases e:j=k
          ·subst e;exact HO.out
          ·exact HN.out j O
         case measure=>simp[intOf];omega
        ·have hf:=hs;have hg:=hs;have HE:Hid (Gr.lH cl R=ag):=I (BS hlt (by rw[HX.out];simp at hs;simp[hs]));go_wp2_with fail;go_ret;exact⟨by rw[HE.out];rfl,ay hb Kr⟩
       ·have HE:Hid (Gr.lH cl R=ag):=I (BS hlt (by rw[HX.out];simp at hk;simp[hk]));go_wp2_with fail;go_ret;exact⟨by rw[HE.out];rfl,ay hb Kr⟩
      ·rw[hg]at iO;have HE:Hid (Gr.lH cl R=ag):=I (BS hlt (by rw[HX.out,hg];simp));go_wp2_with fail;go_ret;exact⟨by rw[HE.out];rfl,ay hb Kr⟩
    ·have HE:Hid (Gr.lH cl R=ae):=I (by unfold Gr.lH Gr.Dk;rw[HV.out,vJ.out,nT (λj hj=>HN.out j O)];rfl);clear hB hRr;go_wp2_with fail;go_ret;exact⟨by rw[HE.out];rfl,hb⟩
end
def rW (R:List eY) (k:Nat) (v:aj):Bool:=match v with
 | G F c=>Gr.Cg (R.take k) c
 |_=>ag
theorem afm (R:List eY):rW R 0=λ_=>ag:=by
 funext v
 unfold rW
 split<;>rfl
theorem afk (R:List eY) (k:Nat) (h:k<R.length):rW R (k+1) (G F R[k].code)= !R[k].mapped:=by
 show Gr.Cg (R.take (k+1)) R[k].code=_;rw[Gr.Sn R k h,bB rfl]
theorem afl (R:List eY) (k:Nat) (h:k<R.length) (u:aj) (hu:u≠ G F R[k].code):rW R (k+1) u=rW R k u:=by
 unfold rW
 split
 ·rename_i c;rw[Gr.Sn R k h,bE (λe=>hu (by rw[e]))]
 ·rfl
theorem aap {c:Int} (hc:(jQ .i64 c).wf=ae):keyOf ak 3 (.int .i64 c)=N (.int .i64 c):=Ia dh hc
theorem afp (f t s:Int) (g m n:Nat) (q:aj->Bool) (w:Z) (hg:g<w.heap.size) (hs:w.cell? ⟨g,0,J⟩=N (.map (N m))) (hS:fw ak 3 4 w m n q) (hw:(jQ .i64 t).wf=ae):
 aF ak 174 #[az #[G F f,G F t,G F s],aN (N ⟨g,0,J⟩)] w (fD (q (G F t)) w):=by
 have hb:Below w.heap.size w (w.alloc (U #[G F f,G F t,G F s] 250)):=(aD _ _).alloc (aC _) _;have hs2:(w.alloc (U #[G F f,G F t,G F s] 250)).cell? ⟨g,0,J⟩=N (.map (N m)):=(hb.cell (p:=⟨g,0,J⟩) hg).trans hs;have iO:=(hS.alloc (U #[G F f,G F t,G F s] 250)).look (t:=98) OM iX wR (uY _) (aap hw);have HB:=I hb;generalize q (G F t)=v at*;clear hb hS hs;go_enter Tryz.func174,Tryz.ntmps174;go_wp2_with fail;go_ret;exact⟨rfl,HB.out⟩
def q8 (q:aj->Bool) (x:bV):Bool:=q (G F x.to)
theorem aiT (l:List bV) (A:Option aG) (lc:Nat) (g:Nat) (q:aj->Bool) (w:Z) (hr:Rd w w.heap.size 3 A l.length (cellsOf bV.cells l)) (hn:l.length<=1000000)
 (hc: ∀ (a:bV),a∈l-> ∀ (W:Z),Below w.heap.size w W->aF ak 174 #[az #[G F a.from_,G F a.to,G F a.since],aN (N ⟨g,0,J⟩)] W (fD (q8 q a) W)):
 aF ak 232 #[T A l.length lc,.func (.func 174) #[] #[aN (N ⟨g,0,J⟩)]] w (λe w'=>e= .returned (G F (iN (q8 q) l))/\Below w.heap.size w w'):=by
 have hb:=aD w.heap.size w;have HR:=I hr;have HC:=I hc;clear hr hc;go_enter Tryz.func232,Tryz.ntmps232;go_wp2_with fail;go_loopw [5,8] (λ_ t wr=> ∃ k:Nat,k<=l.length/\(∀ j (h:j<k) (h1:j<l.length),q8 q (l[j]'h1)=ag)/\t= G F k/\Below w.heap.size w wr) (λ_ t _=>l.length - (intOf t).toNat)
 case atStart=>exact⟨0,O,λj h=>O,rfl,hb⟩
 case round=>
  clear hb;obtain⟨k,hk,hno,rfl,hb⟩:=hrel;have HN:=I hno;clear hno
  by_cases hlt:k<l.length
  ·obtain⟨b,o,hA,aX,f0,f1,f2⟩:=bV.at_ (HR.out.below hb (aC _)) hlt;subst hA
   cases hq:q8 q l[k]
   ·have HQ:=I hq;go_wp2_with (go_at_call 174;refine((HC.out l[k] (bP hlt) _ hb)).mono ?_;rintro e w2 ⟨rfl,hb2⟩;replace hb:=ay hb hb2;clear hb2);go_roundw
    case rel=>
     refine⟨k+1,O,λj h h1=> ?_,by go_num,hb⟩
     by_cases e:j=k
     ·subst e;exact HQ.out
     ·exact HN.out j O h1
    case measure=>simp[intOf];omega
   ·have HE:Hid (iN (q8 q) l=k):=I (Cs k hlt (λj hj=>HN.out j hj O) hq);go_wp2_with (go_at_call 174;refine((HC.out l[k] (bP hlt) _ hb)).mono ?_;rintro e w2 ⟨rfl,hb2⟩;replace hb:=ay hb hb2;clear hb2);go_ret;exact⟨jg HE.out.symm,hb⟩
  ·have HE:Hid (iN (q8 q) l= -1):=I (Gy λj hj=>HN.out j O hj);go_wp2_with fail;go_ret;exact⟨jg HE.out.symm,hb⟩
theorem ahU (l:List bV) (A:Option aG) (lc:Nat) (g:Nat) (q:aj->Bool) (w:Z) (hr:Rd w w.heap.size 3 A l.length (cellsOf bV.cells l)) (hn:l.length<=1000000)
 (hc: ∀ (a:bV),a∈l-> ∀ (W:Z),Below w.heap.size w W->aF ak 174 #[az #[G F a.from_,G F a.to,G F a.since],aN (N ⟨g,0,J⟩)] W (fD (q8 q a) W)):
 aF ak 173 #[T A l.length lc,.func (.func 174) #[] #[aN (N ⟨g,0,J⟩)]] w (fD (l.any (q8 q)) w):=by
 have HE:=I (YF (q8 q) l).symm;generalize l.any (q8 q)=v at*;have K:=I (aiT l A lc g q w hr hn hc);clear hr hc;generalize iN (q8 q) l=i at*
 by_cases h0:0<=i
 ·go_enter Tryz.func173,Tryz.ntmps173;go_wp2_with (go_at_call 232;refine K.out.mono ?_;rintro e w2 ⟨rfl,hb2⟩);go_ret;exact⟨by rw[HE.out];simp[h0],hb2⟩
 ·go_enter Tryz.func173,Tryz.ntmps173;go_wp2_with (go_at_call 232;refine K.out.mono ?_;rintro e w2 ⟨rfl,hb2⟩);go_ret;exact⟨by rw[HE.out];simp[h0],hb2⟩
theorem ak7 (R:List eY) (L:List bV) (h: ∀ k,k<R.length->Gr.rX R k=ag):(!(L.any (q8 (rW R R.length))))=Gr.Fe R L:=by
 have e: ∀ x:bV,q8 (rW R R.length) x=Gr.shut R x.to:=λx=>by
  show Gr.Cg (R.take R.length) x.to=_;rw[FC];exact Gr.afo R h x.to
 have e2:q8 (rW R R.length)=λx=>Gr.shut R x.to:=funext e
 rw[e2,qm];unfold Gr.Fe;simp only[Dv,uy,qo]
 constructor
 ·intro hx;exact nT λj hj=>by rw[getD_lt L j default hj,hx _ (bP hj)];rfl
 ·intro ha x hx;obtain⟨j,hj,rfl⟩:=iK.1 hx;have:=tO ha hj;rw[getD_lt L j default hj]at this
  simpa using this
theorem ane {ch:List Acc} {R:List eY} (h:Gr.Dk ch R=ae) (hw: ∀ a∈ch,(jQ .i64 a.code).wf=ae): ∀ x∈R,(jQ .i64 x.code).wf=ae:=by
 intro x hx;obtain⟨j,hj,rfl⟩:=iK.1 hx;have:=tO h hj;unfold Gr.uW at this;rw[getD_lt R j default hj]at this;simp only[bR]at this;have hf:=this.1;unfold Ch.eO at hf;rw[Option.isSome_iff_exists]at hf;obtain⟨a,ha⟩:=hf;obtain⟨h1,h2⟩:=Ch.GA ch _ a ha;rw[<- h2];exact hw a h1
section
variable (aB:Array aj) (cur:ByteArray) (y m p:Int) (cl:List Acc) (cA:Option aG) (cc:Nat) (ro:dZ) (el:List aY) (eA:Option aG) (ec:Nat) (w:Z)
theorem Yz (xn xc:ByteArray) (l1:List Acc) (A1:Option aG) (c1:Nat) (l2:List bV) (A2:Option aG) (c2:Nat) (xj:Bool) (HG:Hid (aB= #[av cur,G F y,G F m,G F p,T cA cl.length cc,G F ro.dU,G F ro.dR,G F ro.dO,G F ro.inventory,G F ro.reserve,G F ro.dV,G F ro.dJ,G F ro.acquired,G F ro.dX,G F ro.dP,G F ro.dN,G F ro.dQ,G F ro.dW,G F ro.difference,G F ro.dL,T eA el.length ec])) (h:eB w cl cA el eA) (hn:cl.length<=300000)
 (hx:aY.Ok w ⟨xn,xc,⟨l1,A1,c1⟩,⟨l2,A2,c2⟩,xj⟩) (hn1:l1.length<=300000) (hn2:l2.length<=300000) (hR:Gr.Dk cl (Gr.dG ro)=ae):
 aF ak 124 #[az aB,az #[av xn,av xc,T A1 l1.length c1,T A2 l2.length c2,aA xj]] w (fD (Gr.nV cl (Gr.dG ro) ⟨xn,xc,⟨l1,A1,c1⟩,⟨l2,A2,c2⟩,xj⟩) w):=by
 have H:=I h;have hx1:xn.size<=bK:=hx.1;have hx2:xc.size<=bK:=hx.2.1;have gm:Hid (Rd w w.heap.size 4 A1 l1.length (Ch.cells l1)):=I (by rw[<- BR];exact hx.2.2.1.1.1);have gJ:Hid (Rd w w.heap.size 3 A2 l2.length (cellsOf bV.cells l2)):=I hx.2.2.2.1.1.1;have HW1:Hid (∀ a∈l1,(jQ .i64 a.code).wf=ae):=I (λa ha=>(hx.2.2.1.2 a ha).1);have HW2:Hid (∀ x∈l2,Wf x.from_/\Wf x.to/\Wf x.since):=I (λx hx'=>hx.2.2.2.1.2 x hx');have HAP:=I (Gr.anc hR);have Ru:=I (ane hR h.wf);clear h hx hR;have hb:Below w.heap.size w ((w.alloc (.cells aB 29)).alloc (.cells #[.string xn,.string xc,.slice A1 l1.length c1,.slice A2 l2.length c2,.bool xj] 179)):=by
  have hb:=aD w.heap.size w;exact bC
 have HB:=I ((au.new w 29 aB).alloc (U #[av xn,av xc,T A1 l1.length c1,T A2 l2.length c2,aA xj] 179));have HX0:=au.new (w.alloc (U aB 29)) 179 #[av xn,av xc,T A1 l1.length c1,T A2 l2.length c2,aA xj];have ez:(w.alloc (U aB 29)).heap.size=w.heap.size+1:=aL;rw[ez]at HX0;have HX:=I HX0;clear ez HX0;have e4:((w.alloc (U aB 29)).alloc (U #[av xn,av xc,T A1 l1.length c1,T A2 l2.length c2,aA xj] 179)).cell? ⟨w.heap.size,4,J⟩=N (T cA cl.length cc):=(HB.out.cell 4).trans aQ;have hmm:= @rC ak;have HD:Hid (Gr.nV cl (Gr.dG ro) ⟨xn,xc,⟨l1,A1,c1⟩,⟨l2,A2,c2⟩,xj⟩=(Gr.jG xn&&(Gr.ed xc&&(Gr.jd l1 cl l2&&Gr.Fe (Gr.dG ro) l2)))):=I rfl;generalize Gr.nV cl (Gr.dG ro) ⟨xn,xc,⟨l1,A1,c1⟩,⟨l2,A2,c2⟩,xj⟩=V at*
 cases hnm:Gr.jG xn
 ·have HE:Hid (V=ag):=I (by rw[HD.out,hnm];rfl);have rJ:=I hnm;clear hnm;go_enter Tryz.func124,Tryz.ntmps124;go_wp2_with
   (go_at_call 171;refine((OW xn _ hx1)).mono ?_;rintro e w2 ⟨rfl,rfl⟩;rw[rJ.out])
  go_ret;exact⟨by rw[HE.out];rfl,hb⟩
 ·have rJ:=I hnm
  cases gT:Gr.ed xc
  ·have HE:Hid (V=ag):=I (by rw[HD.out,gT];simp);have lD:=I gT;clear gT hnm;go_enter Tryz.func124,Tryz.ntmps124;go_wp2_with (first
    |(go_at_call 171;refine((OW xn _ hx1)).mono ?_;rintro e w2 ⟨rfl,rfl⟩;rw[rJ.out])
    |(go_at_call 121;refine((y9 xc _ hx2)).mono ?_;rintro e w2 ⟨rfl,rfl⟩;rw[lD.out]))
   go_ret;exact⟨by rw[HE.out];rfl,hb⟩
  ·have lD:=I gT
   cases tZ:Gr.jd l1 cl l2
   ·have HE:Hid (V=ag):=I (by rw[HD.out,tZ];simp);have oF:=I tZ;clear tZ gT hnm;go_enter Tryz.func124,Tryz.ntmps124;go_wp2_with (first
     |(go_at_call 171;refine((OW xn _ hx1)).mono ?_;rintro e w2 ⟨rfl,rfl⟩;rw[rJ.out])
     |(go_at_call 121;refine((y9 xc _ hx2)).mono ?_;rintro e w2 ⟨rfl,rfl⟩;rw[lD.out])
     |(go_at_call 172;refine(aaP xn xc l1 A1 c1 l2 A2 c2 xj cl cA cc _ (Rd.now gm.out hb) (H.out.step hb).ch (Rd.now gJ.out hb) hn1 hn HW1.out H.out.wf HW2.out).mono ?_;rintro e w2 ⟨rfl,hb2⟩;rw[oF.out];replace hb:=ay hb hb2;have HB2:=I (((HB.out.step hb2).alloc (.map #[] 0)).alloc (U #[.map (N w2.heap.size)] 98));have dn:=I (((HX.out.step hb2).alloc (.map #[] 0)).alloc (U #[.map (N w2.heap.size)] 98));have g5:((w2.alloc (.map #[] 0)).alloc (U #[.map (N w2.heap.size)] 98)).cell? ⟨w.heap.size,5,J⟩=N (G F ro.dU):=(HB2.out.cell 5).trans aQ;have g6:((w2.alloc (.map #[] 0)).alloc (U #[.map (N w2.heap.size)] 98)).cell? ⟨w.heap.size,6,J⟩=N (G F ro.dR):=(HB2.out.cell 6).trans aQ;have g7:((w2.alloc (.map #[] 0)).alloc (U #[.map (N w2.heap.size)] 98)).cell? ⟨w.heap.size,7,J⟩=N (G F ro.dO):=(HB2.out.cell 7).trans aQ;have g8:((w2.alloc (.map #[] 0)).alloc (U #[.map (N w2.heap.size)] 98)).cell? ⟨w.heap.size,8,J⟩=N (G F ro.inventory):=(HB2.out.cell 8).trans aQ;have g9:((w2.alloc (.map #[] 0)).alloc (U #[.map (N w2.heap.size)] 98)).cell? ⟨w.heap.size,9,J⟩=N (G F ro.reserve):=(HB2.out.cell 9).trans aQ;have g10:((w2.alloc (.map #[] 0)).alloc (U #[.map (N w2.heap.size)] 98)).cell? ⟨w.heap.size,10,J⟩=N (G F ro.dV):=(HB2.out.cell 10).trans aQ;have g11:((w2.alloc (.map #[] 0)).alloc (U #[.map (N w2.heap.size)] 98)).cell? ⟨w.heap.size,11,J⟩=N (G F ro.dJ):=(HB2.out.cell 11).trans aQ;have g12:((w2.alloc (.map #[] 0)).alloc (U #[.map (N w2.heap.size)] 98)).cell? ⟨w.heap.size,12,J⟩=N (G F ro.acquired):=(HB2.out.cell 12).trans aQ;have g13:((w2.alloc (.map #[] 0)).alloc (U #[.map (N w2.heap.size)] 98)).cell? ⟨w.heap.size,13,J⟩=N (G F ro.dX):=(HB2.out.cell 13).trans aQ;have g14:((w2.alloc (.map #[] 0)).alloc (U #[.map (N w2.heap.size)] 98)).cell? ⟨w.heap.size,14,J⟩=N (G F ro.dP):=(HB2.out.cell 14).trans aQ;have g15:((w2.alloc (.map #[] 0)).alloc (U #[.map (N w2.heap.size)] 98)).cell? ⟨w.heap.size,15,J⟩=N (G F ro.dN):=(HB2.out.cell 15).trans aQ;have g16:((w2.alloc (.map #[] 0)).alloc (U #[.map (N w2.heap.size)] 98)).cell? ⟨w.heap.size,16,J⟩=N (G F ro.dQ):=(HB2.out.cell 16).trans aQ;have g17:((w2.alloc (.map #[] 0)).alloc (U #[.map (N w2.heap.size)] 98)).cell? ⟨w.heap.size,17,J⟩=N (G F ro.dW):=(HB2.out.cell 17).trans aQ;have g18:((w2.alloc (.map #[] 0)).alloc (U #[.map (N w2.heap.size)] 98)).cell? ⟨w.heap.size,18,J⟩=N (G F ro.difference):=(HB2.out.cell 18).trans aQ;have g19:((w2.alloc (.map #[] 0)).alloc (U #[.map (N w2.heap.size)] 98)).cell? ⟨w.heap.size,19,J⟩=N (G F ro.dL):=(HB2.out.cell 19).trans aQ))
    go_ret;exact⟨by rw[HE.out];rfl,hb⟩
   ·have HE:Hid (V= !(l2.any (q8 (rW (Gr.dG ro) (Gr.dG ro).length)))):=I (by rw[HD.out,tZ,gT,hnm,ak7 _ _ HAP.out];rfl);have oF:=I tZ;clear tZ gT hnm;go_enter Tryz.func124,Tryz.ntmps124;go_wp2_with (first
     |(go_at_call 171;refine((OW xn _ hx1)).mono ?_;rintro e w2 ⟨rfl,rfl⟩;rw[rJ.out])
     |(go_at_call 121;refine((y9 xc _ hx2)).mono ?_;rintro e w2 ⟨rfl,rfl⟩;rw[lD.out])
     |(go_at_call 172;refine(aaP xn xc l1 A1 c1 l2 A2 c2 xj cl cA cc _ (Rd.now gm.out hb) (H.out.step hb).ch (Rd.now gJ.out hb) hn1 hn HW1.out H.out.wf HW2.out).mono ?_;rintro e w2 ⟨rfl,hb2⟩;rw[oF.out];replace hb:=ay hb hb2;have HB2:=I (((HB.out.step hb2).alloc (.map #[] 0)).alloc (U #[.map (N w2.heap.size)] 98));have dn:=I (((HX.out.step hb2).alloc (.map #[] 0)).alloc (U #[.map (N w2.heap.size)] 98));have g5:((w2.alloc (.map #[] 0)).alloc (U #[.map (N w2.heap.size)] 98)).cell? ⟨w.heap.size,5,J⟩=N (G F ro.dU):=(HB2.out.cell 5).trans aQ;have g6:((w2.alloc (.map #[] 0)).alloc (U #[.map (N w2.heap.size)] 98)).cell? ⟨w.heap.size,6,J⟩=N (G F ro.dR):=(HB2.out.cell 6).trans aQ;have g7:((w2.alloc (.map #[] 0)).alloc (U #[.map (N w2.heap.size)] 98)).cell? ⟨w.heap.size,7,J⟩=N (G F ro.dO):=(HB2.out.cell 7).trans aQ;have g8:((w2.alloc (.map #[] 0)).alloc (U #[.map (N w2.heap.size)] 98)).cell? ⟨w.heap.size,8,J⟩=N (G F ro.inventory):=(HB2.out.cell 8).trans aQ;have g9:((w2.alloc (.map #[] 0)).alloc (U #[.map (N w2.heap.size)] 98)).cell? ⟨w.heap.size,9,J⟩=N (G F ro.reserve):=(HB2.out.cell 9).trans aQ;have g10:((w2.alloc (.map #[] 0)).alloc (U #[.map (N w2.heap.size)] 98)).cell? ⟨w.heap.size,10,J⟩=N (G F ro.dV):=(HB2.out.cell 10).trans aQ;have g11:((w2.alloc (.map #[] 0)).alloc (U #[.map (N w2.heap.size)] 98)).cell? ⟨w.heap.size,11,J⟩=N (G F ro.dJ):=(HB2.out.cell 11).trans aQ;have g12:((w2.alloc (.map #[] 0)).alloc (U #[.map (N w2.heap.size)] 98)).cell? ⟨w.heap.size,12,J⟩=N (G F ro.acquired):=(HB2.out.cell 12).trans aQ;have g13:((w2.alloc (.map #[] 0)).alloc (U #[.map (N w2.heap.size)] 98)).cell? ⟨w.heap.size,13,J⟩=N (G F ro.dX):=(HB2.out.cell 13).trans aQ;have g14:((w2.alloc (.map #[] 0)).alloc (U #[.map (N w2.heap.size)] 98)).cell? ⟨w.heap.size,14,J⟩=N (G F ro.dP):=(HB2.out.cell 14).trans aQ;have g15:((w2.alloc (.map #[] 0)).alloc (U #[.map (N w2.heap.size)] 98)).cell? ⟨w.heap.size,15,J⟩=N (G F ro.dN):=(HB2.out.cell 15).trans aQ;have g16:((w2.alloc (.map #[] 0)).alloc (U #[.map (N w2.heap.size)] 98)).cell? ⟨w.heap.size,16,J⟩=N (G F ro.dQ):=(HB2.out.cell 16).trans aQ;have g17:((w2.alloc (.map #[] 0)).alloc (U #[.map (N w2.heap.size)] 98)).cell? ⟨w.heap.size,17,J⟩=N (G F ro.dW):=(HB2.out.cell 17).trans aQ;have g18:((w2.alloc (.map #[] 0)).alloc (U #[.map (N w2.heap.size)] 98)).cell? ⟨w.heap.size,18,J⟩=N (G F ro.difference):=(HB2.out.cell 18).trans aQ;have g19:((w2.alloc (.map #[] 0)).alloc (U #[.map (N w2.heap.size)] 98)).cell? ⟨w.heap.size,19,J⟩=N (G F ro.dL):=(HB2.out.cell 19).trans aQ))
    have hlx:=(HX.out.step hb2).lt;clear e4 g5 g6 g7 g8 g9 g10 g11 g12 g13 g14 g15 g16 g17 g18 g19 HB HX hb2;have xW:=(fw.made (P:=ak) (k:=3) (e:=4) w2).alloc (U #[.map (N w2.heap.size)] 98);have Tm:=au.new (w2.alloc (.map #[] 0)) 98 #[.map (N w2.heap.size)];have ez:(w2.alloc (.map #[] 0)).heap.size=w2.heap.size+1:=aL;rw[ez]at Tm;have hb4:Below w.heap.size w ((w2.alloc (.map #[] 0)).alloc (U #[.map (N w2.heap.size)] 98)):=bC;have qV:w2.heap.size+1<((w2.alloc (.map #[] 0)).alloc (U #[.map (N w2.heap.size)] 98)).heap.size:=aL;have aiE:=hb.size;clear ez;generalize mh:(w2.alloc (.map #[] 0)).alloc (U #[.map (N w2.heap.size)] 98)=W at*;clear mh hb HD;refine(abL ro W).mono ?_;rintro e w4 ⟨A,lc,rfl,hr,ah⟩;have hb:=ay hb4 ah;have TQ:(Gr.dG ro).length<=15:=Qj (Gr.Pq ro);generalize Gr.dG ro=R at*;have HR:=I hr;have gL:=I (dn.out.step ah);have zZ:=I (xW.step ah);have Nl:=I (Tm.step ah);clear hr ah HB2 dn xW Tm hb4 qV;go_wp2_with fail;go_loopw [30] (λt wr=> ∃ k:Nat,k<=R.length/\t= G F k/\fw ak 3 4 wr w2.heap.size k (rW R k)/\au wr (w2.heap.size+1) 98 #[.map (N w2.heap.size)]/\au wr (w.heap.size+1) 179 #[av xn,av xc,T A1 l1.length c1,T A2 l2.length c2,aA xj]/\Rd wr wr.heap.size 5 A R.length (cellsOf eY.cells R)/\Below w.heap.size w wr) (λt _=>R.length - (intOf t).toNat)
    case atStart=>exact⟨0,O,rfl,by rw[afm];exact zZ.out,Nl.out,gL.out,HR.out,hb⟩
    case round=>
     clear zZ gL Nl HR hb;obtain⟨k,hk,rfl,hS,hQ,hX,hRr,hb⟩:=hrel;have hz:=hb.size
     by_cases hlt:k<R.length
     ·obtain⟨b,o,hA,aX,f0,f1,f2,f3,f4⟩:=eY.at_ hRr hlt;subst hA;have vK:=I (afk R k hlt);have mf:=I (afl R k hlt);have hw:=Ru.out _ (bP hlt);generalize R[k]=x at*;obtain⟨nm,c,kd,bs,mp⟩:=x;dsimp only at*;have Tn:=hQ.alloc (.cells #[.string nm,.int .i64 c,.int .i64 kd,.int .i64 bs,.bool mp] 268);have hX1:=hX.alloc (.cells #[.string nm,.int .i64 c,.int .i64 kd,.int .i64 bs,.bool mp] 268);have hS1:=hS.alloc (.cells #[.string nm,.int .i64 c,.int .i64 kd,.int .i64 bs,.bool mp] 268);have Zk:=Rd.now hRr ((aD wr.heap.size wr).alloc (aC _) (.cells #[.string nm,.int .i64 c,.int .i64 kd,.int .i64 bs,.bool mp] 268));have hb1:=hb.alloc hz (.cells #[.string nm,.int .i64 c,.int .i64 kd,.int .i64 bs,.bool mp] 268);have e0:=Tn.cell 0;have vS:=I Tn;have df:=I hX1;have HR1:=I Zk;clear hQ hX hS hRr Tn hX1 Zk;go_wp2_with (at_mapUpdate;refine Bf (rW R (k+1)) rfl _ _ _ 98 rfl OM iX wR hS1 fQ (.int .i64 c) (jQ .i64 c) (!mp) (aap hw) rfl rfl rfl vK.out (λu lu _ hu=>mf.out u hu) ?_;intro w5 hS5 hg5);have hQ5:=vS.out.grown hg5 aL;have hX5:=df.out.grown hg5 bL;have hR5:=(HR1.out.past hg5 hS1.isMap).more hg5.size;have hb5:Below w.heap.size w w5:=ni hb1 hg5 hb1.size (λj hj=>by injection hj with hj;omega);clear hg5 hS1 e0;go_wp2_with fail;go_roundw
      case rel=>exact⟨k+1,O,by go_num,hS5,hQ5,hX5,hR5,hb5⟩
      case measure=>simp[intOf];omega
     ·have HKR:Hid (rW R k=rW R R.length):=I (by rw[show k=R.length from O]);have e3:wr.cell? ⟨w.heap.size+1,3,J⟩=N (T A2 l2.length c2):=hX.cell 3;have HQ:=I hQ;rw[HKR.out]at hS;have HS:=I hS;clear hQ hX hS hRr;generalize rW R R.length=q at*;have K:=I (ahU l2 A2 c2 (w2.heap.size+1) q wr (Rd.now gJ.out hb) O λa ha W' hb'=>by
       have h1:=(HQ.out.step hb').cell 0;exact afp a.from_ a.to a.since (w2.heap.size+1) w2.heap.size k q W' (HQ.out.step hb').lt h1 (HS.out.step hb') (HW2.out a ha).2.1)
      generalize l2.any (q8 q)=v at*;go_wp2_with (go_at_call 173;refine K.out.mono ?_;rintro e w5 ⟨rfl,ah⟩;replace hb:=ay hb ah);go_ret;exact⟨by rw[HE.out];rfl,hb⟩
end
def Gr.gv (cur:ByteArray) (cl:List Acc) (ro:dZ) (el:List aY) (nU:Bool):Bool:=
 Gr.ed cur&&(nU&&(Gr.lH cl (Gr.dG ro)&&(decide (1<=el.length)&&(decide (el.length<=12)&&(!(el.getD 0 default).joint&&Gr.uM cl (Gr.dG ro) el)))))
def G8 (E:List aY):List yY:=E.map λx=>x.name.data.toList
theorem X8 {a b:ByteArray} (h:a.data.toList=b.data.toList):a=b:=by
 obtain⟨⟨a⟩⟩:=a;obtain⟨⟨b⟩⟩:=b;simp at h;rw[h]
theorem akB (E:List aY) (k:Nat) (h:k<E.length):decide (E[k].name.data.toList∈G8 (E.take k))=Gr.pI E k:=by
 unfold Gr.pI G8;rw[getD_lt E k default h,qm];simp only[dm,iW,vG]
 constructor
 ·rintro⟨x,hx,e⟩;exact⟨x,hx,X8 e⟩
 ·rintro⟨x,hx,e⟩;exact⟨x,hx,by rw[e]⟩
theorem akD (E:List aY) (k:Nat) (h:k<E.length):G8 (E.take (k+1))=G8 (E.take k)++ [E[k].name.data.toList]:=by
 unfold G8;rw[gY h,mJ];rfl
theorem aeh {ch:List Acc} {R:List eY} (h:Gr.lH ch R=ae):Gr.Dk ch R=ae:=by
 unfold Gr.lH at h;simp only[bR]at h;exact h.2.2
section
variable (aB:Array aj) (cur:ByteArray) (y m p:Int) (cl:List Acc) (cA:Option aG) (cc:Nat) (ro:dZ) (el:List aY) (eA:Option aG) (ec:Nat) (w:Z)
theorem Ol (HG:Hid (aB= #[av cur,G F y,G F m,G F p,T cA cl.length cc,G F ro.dU,G F ro.dR,G F ro.dO,G F ro.inventory,G F ro.reserve,G F ro.dV,G F ro.dJ,G F ro.acquired,G F ro.dX,G F ro.dP,G F ro.dN,G F ro.dQ,G F ro.dW,G F ro.difference,G F ro.dL,T eA el.length ec])) (h:eB w cl cA el eA) (hF:lY cur cl el):aF ak 76 #[az aB] w (fD (Gr.gv cur cl ro el (ax.ok y m p)) w):=by
 have hn:cl.length<=300000:=by have:=hF.ch;omega
 have hcs:cur.size<=bK:=hF.cur;have hel:=hF.en;have HF:=I hF.EE;have H:=I h;clear h hF;have hgi:(ak.info? 29).map (·.size)=N aB.size:=by rw[HG.out];exact gy
 have hb:Below w.heap.size w (w.alloc (U aB 29)):=(aD _ _).alloc (aC _) _;have HB:=I (au.new w 29 aB);have e0:(w.alloc (U aB 29)).cell? ⟨w.heap.size,0,J⟩=N (av cur):=(HB.out.cell 0).trans aQ;have e1:(w.alloc (U aB 29)).cell? ⟨w.heap.size,1,J⟩=N (G F y):=(HB.out.cell 1).trans aQ;have e2:(w.alloc (U aB 29)).cell? ⟨w.heap.size,2,J⟩=N (G F m):=(HB.out.cell 2).trans aQ;have e3:(w.alloc (U aB 29)).cell? ⟨w.heap.size,3,J⟩=N (G F p):=(HB.out.cell 3).trans aQ;have hmm:= @rC ak;have HD:Hid (Gr.gv cur cl ro el (ax.ok y m p)=(Gr.ed cur&&(ax.ok y m p&&(Gr.lH cl (Gr.dG ro)&&(decide (1<=el.length)&&(decide (el.length<=12)&&(!(el.getD 0 default).joint&&Gr.uM cl (Gr.dG ro) el))))))):=I rfl;generalize Gr.gv cur cl ro el (ax.ok y m p)=V at*
 cases gT:Gr.ed cur
 ·have HE:Hid (V=ag):=I (by rw[HD.out,gT];rfl);have lD:=I gT;clear gT;go_enter FR,FT;go_wp2_with
   (go_at_call 121;refine((y9 cur _ hcs)).mono ?_;rintro e w2 ⟨rfl,rfl⟩;rw[lD.out])
  go_ret;exact⟨by rw[HE.out];rfl,hb⟩
 ·have lD:=I gT
  cases tY:ax.ok y m p
  ·have HE:Hid (V=ag):=I (by rw[HD.out,tY];simp);have vL:=I tY;clear gT tY;go_enter FR,FT;go_wp2_with (first
    |(go_at_call 121;refine((y9 cur _ hcs)).mono ?_;rintro e w2 ⟨rfl,rfl⟩;rw[lD.out])
    |(go_at_call 122;refine(Cb y m p _).mono ?_;rintro e w2 ⟨rfl,hb2⟩;rw[vL.out];replace hb:=ay hb hb2;have HB2:=I (HB.out.step hb2);clear hb2))
   go_ret;exact⟨by rw[HE.out];rfl,hb⟩
  ·have vL:=I tY
   cases hac:Gr.lH cl (Gr.dG ro)
   ·have HE:Hid (V=ag):=I (by rw[HD.out,hac];simp);have DJ:=I hac;clear gT tY hac;go_enter FR,FT;go_wp2_with (first
     |(go_at_call 121;refine((y9 cur _ hcs)).mono ?_;rintro e w2 ⟨rfl,rfl⟩;rw[lD.out])
     |(go_at_call 122;refine(Cb y m p _).mono ?_;rintro e w2 ⟨rfl,hb2⟩;rw[vL.out];replace hb:=ay hb hb2;have HB2:=I (HB.out.step hb2);clear hb2)
     |(refine cZ 29 (.tmp 1) rfl (w.heap.size) rfl ai (HB2).out bQ hgi ?_)
     |(go_at_call 123;refine(JB aB cur y m p cl cA cc ro el _ ec _ HG (H.out.step hb) hn).mono ?_;rintro e w3 ⟨rfl,hb3⟩;rw[DJ.out];replace hb:=ay hb hb3;have HB3:=I (HB2.out.step hb3);clear hb3;have g20:w3.cell? ⟨w.heap.size,20,J⟩=N (T (eA) el.length ec):=(HB3.out.cell 20).trans aQ))
    go_ret;exact⟨by rw[HE.out];rfl,hb⟩
   ·have DJ:=I hac;rw[gT,tY,hac]at HD;clear gT tY hac
    by_cases h1:1<=el.length
    ·obtain⟨b,o,hA,aX,f0,f1,f2,f3,f4⟩:=aY.at_ (k:=0) H.out.en h1;subst hA;have pO:Hid (∀ W,Below w.heap.size w W->W.cell? ⟨b,o+4,J⟩=N (aA (el[0]'h1).joint)):=I (λW hb=>(hb.cell (p:=⟨b,o+4,J⟩) aX).trans (by simpa using f4));clear f0 f1 f2 f3 f4;rw[getD_lt el 0 default h1]at HD
     by_cases h12:el.length<=12
     ·cases hj:(el[0]'h1).joint
      ·have hj':=hj;rw[hj]at pO;have HJ:=I hj;clear hj hj';go_enter FR,FT;go_wp2_with (first
        |(go_at_call 121;refine((y9 cur _ hcs)).mono ?_;rintro e w2 ⟨rfl,rfl⟩;rw[lD.out])
        |(go_at_call 122;refine(Cb y m p _).mono ?_;rintro e w2 ⟨rfl,hb2⟩;rw[vL.out];replace hb:=ay hb hb2;have HB2:=I (HB.out.step hb2);clear hb2)
        |(refine cZ 29 (.tmp 1) rfl (w.heap.size) rfl ai (HB2).out bQ hgi ?_)
        |(go_at_call 123;refine(JB aB cur y m p cl cA cc ro el _ ec _ HG (H.out.step hb) hn).mono ?_;rintro e w3 ⟨rfl,hb3⟩;rw[DJ.out];replace hb:=ay hb hb3;have HB3:=I (HB2.out.step hb3);clear hb3;have g20:w3.cell? ⟨w.heap.size,20,J⟩=N (T (N ⟨b,o,J⟩) el.length ec):=(HB3.out.cell 20).trans aQ;have g0:=pO.out w3 hb;have g21:(w3.alloc (.map #[] 0)).cell? ⟨w.heap.size,20,J⟩=N (T (N ⟨b,o,J⟩) el.length ec):=((HB3.out.alloc (.map #[] 0)).cell 20).trans aQ))
       clear e0 e1 e2 e3 g20 g0 g21 HB HB2 pO;have xW:=nS.made (P:=ak) (k:=9) (e:=4) w3;have hb4:=hb.alloc hb.size (.map #[] 0);have hB4:=HB3.out.alloc (.map #[] 0);have hl3:=HB3.out.lt;clear HB3;have HR:=I (aeh DJ.out);go_loopw [44] (λt wr=> ∃ k:Nat,k<=el.length/\(∀ j,j<k->(!Gr.pI el j&&Gr.nV cl (Gr.dG ro) (el.getD j default))=ae)/\t= G F k/\nS ak 9 4 wr w3.heap.size k (G8 (el.take k))/\au wr w.heap.size 29 aB/\Below w.heap.size w wr) (λt _=>el.length - (intOf t).toNat)
       case atStart=>exact⟨0,O,λj h=>O,rfl,xW,hB4,hb4⟩
       case round=>
        clear xW hB4 hb4 hb;obtain⟨k,hk,hno,rfl,hS,hB,hb⟩:=hrel;have HN:=I hno;have hz:=hb.size;clear hno
        by_cases hlt:k<el.length
        ·obtain⟨b',o',hA',tX,f0,f1,f2,f3,f4⟩:=aY.at_ (Rd.now H.out.en hb) hlt;injection hA' with hA'
         injection hA' with hA1 hA2
         subst hA1 hA2;have hok:=H.out.ok _ (bP hlt);have CQ:=HF.out k hlt;have HX:Hid (el.getD k default=el[k]):=I (getD_lt el k default hlt);have HM:=I (akB el k hlt);have HT:=I (akD el k hlt);generalize el[k]=x at*;obtain⟨xn,xc,⟨l1,A1,c1⟩,⟨l2,A2,c2⟩,xj⟩:=x;dsimp only[Sl.val]at*;have hxn:xn.size<=bK:=hok.1;have dx:=I hok;have iO:=(hS.alloc (U #[av xn,av xc,T A1 l1.length c1,T A2 l2.length c2,aA xj] 179)).look (t:=219) zF iX Tryz.underlying219 (uY _) hxn;rw[HM.out]at iO;have HB1:=I (hB.alloc (U #[av xn,av xc,T A1 l1.length c1,T A2 l2.length c2,aA xj] 179));have eP:=I (hS.alloc (U #[av xn,av xc,T A1 l1.length c1,T A2 l2.length c2,aA xj] 179));have df:=I (au.new wr 179 #[av xn,av xc,T A1 l1.length c1,T A2 l2.length c2,aA xj]);have hb1:=hb.alloc hz (U #[av xn,av xc,T A1 l1.length c1,T A2 l2.length c2,aA xj] 179);clear hok hS hB
         cases hnb:Gr.pI el k
         ·rw[hnb]at iO;have mM:=I hnb;clear hnb
          cases hev:Gr.nV cl (Gr.dG ro) ⟨xn,xc,⟨l1,A1,c1⟩,⟨l2,A2,c2⟩,xj⟩
          ·have HE:Hid (V=ag):=I (by rw[HD.out];unfold Gr.uM;rw[kD hlt (by rw[HX.out,mM.out,hev];rfl)];simp);have QE:=I hev;clear hev;go_wp2_with (first
            |(refine cZ 29 (.tmp 1) rfl (w.heap.size) rfl ai (HB1).out bQ hgi ?_)
            |(go_at_call 124;refine(Yz aB cur y m p cl cA cc ro el _ ec _ xn xc l1 A1 c1 l2 A2 c2 xj HG (H.out.step hb1) hn (dx.out.step hb1) O O HR.out).mono ?_;rintro e w5 ⟨rfl,ah⟩;rw[QE.out];have hb5:=ay hb1 ah;clear ah))
           go_ret;exact⟨by rw[HE.out];rfl,hb5⟩
          ·have HO:Hid ((!Gr.pI el k&&Gr.nV cl (Gr.dG ro) (el.getD k default))=ae):=I (by rw[HX.out,mM.out,hev];rfl);have QE:=I hev;clear hev;go_wp2_with (first
            |(refine cZ 29 (.tmp 1) rfl (w.heap.size) rfl ai (HB1).out bQ hgi ?_)
            |(go_at_call 124;refine(Yz aB cur y m p cl cA cc ro el _ ec _ xn xc l1 A1 c1 l2 A2 c2 xj HG (H.out.step hb1) hn (dx.out.step hb1) O O HR.out).mono ?_;rintro e w5 ⟨rfl,ah⟩;rw[QE.out];have hb5:=ay hb1 ah;have hS5:=eP.out.step ah;have gB:=I (HB1.out.step ah);have k0:=(df.out.step ah).cell 0;clear ah)
            |(at_mapUpdate;refine ao5 rfl _ _ _ 219 rfl zF iX Tryz.underlying219 hS5 fQ xn hxn rfl rfl rfl ?_;intro w6 nY iE))
           have hbz:=hb5.size;have GJ:=gB.out.grown iE bL;have hb6:Below w.heap.size w w6:=ni hb5 iE O (λj hj=>by injection hj with hj;omega);rw[<- HT.out]at nY;clear iE hS5 k0;go_wp2_with fail;go_roundw
           case rel=>
            refine⟨k+1,O,λj hj=> ?_,by go_num,nY,GJ,hb6⟩
            by_cases e:j=k
            ·subst e;exact HO.out
            ·exact HN.out j O
           case measure=>simp[intOf];omega
         ·have HE:Hid (V=ag):=I (by rw[HD.out];unfold Gr.uM;rw[kD hlt (by rw[hnb];rfl)];simp);rw[hnb]at iO;clear hnb;go_wp2_with fail;go_ret;exact⟨by rw[HE.out];rfl,hb1⟩
        ·have HE:Hid (V=ae):=I (by rw[HD.out,HJ.out];unfold Gr.uM;rw[nT (λj hj=>HN.out j O)];simp[h12];omega);clear hS hB;go_wp2_with fail;go_ret;exact⟨by rw[HE.out];rfl,hb⟩
      ·have HE:Hid (V=ag):=I (by rw[HD.out];simp[hj]);rw[hj]at pO;clear hj;go_enter FR,FT;go_wp2_with (first
        |(go_at_call 121;refine((y9 cur _ hcs)).mono ?_;rintro e w2 ⟨rfl,rfl⟩;rw[lD.out])
        |(go_at_call 122;refine(Cb y m p _).mono ?_;rintro e w2 ⟨rfl,hb2⟩;rw[vL.out];replace hb:=ay hb hb2;have HB2:=I (HB.out.step hb2);clear hb2)
        |(refine cZ 29 (.tmp 1) rfl (w.heap.size) rfl ai (HB2).out bQ hgi ?_)
        |(go_at_call 123;refine(JB aB cur y m p cl cA cc ro el _ ec _ HG (H.out.step hb) hn).mono ?_;rintro e w3 ⟨rfl,hb3⟩;rw[DJ.out];replace hb:=ay hb hb3;have HB3:=I (HB2.out.step hb3);clear hb3;have g20:w3.cell? ⟨w.heap.size,20,J⟩=N (T (N ⟨b,o,J⟩) el.length ec):=(HB3.out.cell 20).trans aQ;have g0:=pO.out w3 hb))
       go_ret;exact⟨by rw[HE.out];rfl,hb⟩
     ·have HE:Hid (V=ag):=I (by rw[HD.out];simp[h12]);have aho:12<el.length:=O;go_enter FR,FT;go_wp2_with (first
       |(go_at_call 121;refine((y9 cur _ hcs)).mono ?_;rintro e w2 ⟨rfl,rfl⟩;rw[lD.out])
       |(go_at_call 122;refine(Cb y m p _).mono ?_;rintro e w2 ⟨rfl,hb2⟩;rw[vL.out];replace hb:=ay hb hb2;have HB2:=I (HB.out.step hb2);clear hb2)
       |(refine cZ 29 (.tmp 1) rfl (w.heap.size) rfl ai (HB2).out bQ hgi ?_)
       |(go_at_call 123;refine(JB aB cur y m p cl cA cc ro el _ ec _ HG (H.out.step hb) hn).mono ?_;rintro e w3 ⟨rfl,hb3⟩;rw[DJ.out];replace hb:=ay hb hb3;have HB3:=I (HB2.out.step hb3);clear hb3;have g20:w3.cell? ⟨w.heap.size,20,J⟩=N (T (N ⟨b,o,J⟩) el.length ec):=(HB3.out.cell 20).trans aQ))
      go_ret;exact⟨by rw[HE.out];rfl,hb⟩
    ·have HE:Hid (V=ag):=I (by rw[HD.out];simp[h1]);have h1':el.length<1:=O;go_enter FR,FT;go_wp2_with (first
      |(go_at_call 121;refine((y9 cur _ hcs)).mono ?_;rintro e w2 ⟨rfl,rfl⟩;rw[lD.out])
      |(go_at_call 122;refine(Cb y m p _).mono ?_;rintro e w2 ⟨rfl,hb2⟩;rw[vL.out];replace hb:=ay hb hb2;have HB2:=I (HB.out.step hb2);clear hb2)
      |(refine cZ 29 (.tmp 1) rfl (w.heap.size) rfl ai (HB2).out bQ hgi ?_)
      |(go_at_call 123;refine(JB aB cur y m p cl cA cc ro el _ ec _ HG (H.out.step hb) hn).mono ?_;rintro e w3 ⟨rfl,hb3⟩;rw[DJ.out];replace hb:=ay hb hb3;have HB3:=I (HB2.out.step hb3);clear hb3;have g20:w3.cell? ⟨w.heap.size,20,J⟩=N (T (eA) el.length ec):=(HB3.out.cell 20).trans aQ))
     go_ret;exact⟨by rw[HE.out];rfl,hb⟩
end
end Go.Proofs.YtbedbfdhfokifaaGreat
