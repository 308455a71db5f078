/- Part of the proof of WholeMatching. -/
import Derived.Test.YtbedbfdhfokifaaGreatJAQ
import Derived.Test.YtbedbfdhfokifaaGreatJAR
import Derived.Test.YtbedbfdhfokifaaGreatJAT
namespace Go.Proofs.YtbedbfdhfokifaaGreat
set_option maxRecDepth 100000
set_option maxHeartbeats 16000000
set_option linter.unusedVariables false
set_option linter.unusedSimpArgs false
open _root_.Bool renaming true->ae,false->ag
open Go renaming World->Z,Calls->aF,Addr->aG,Value->aj,maxLen->bK,Ending->eG
open Go.Ending renaming returned->bM
open Go.IntKind renaming i64->F
open Go.Obj renaming cells->U
open Go.Proofs.Tryz renaming prog->ak
open Go.Sort renaming grow->aa9
open Go.Value renaming int->G,slice->T,bool->aA,pointer->aN,string->av,agg->az,tuple->bG
open _root_.Option renaming none->J,some->N
open Go.RowKit
def Gr.bk (cur:ByteArray) (cl:List Acc) (ro:dZ) (nU:Bool):Bool:=Gr.ed cur&&(nU&&Gr.lH cl (Gr.dG ro))
theorem afu {R:List eY} {k j:Nat} (hk:k<R.length) (hj:j<k) (h1:(R[j]'O).code=R[k].code):Gr.rX R k=ae:=by
 unfold Gr.rX;rw[getD_lt R k default hk,vG];refine⟨R[j]'O,?_,by rw[h1];simp⟩;rw[Dy];exact⟨j,O,rfl⟩
theorem aft {R:List eY} {k:Nat} (hk:k<R.length) (h: ∀ j (hj:j<k),(R[j]'O).code≠R[k].code):Gr.rX R k=ag:=by
 unfold Gr.rX;rw[getD_lt R k default hk,uy];intro x hx;rw[Dy]at hx;obtain⟨j,hj,rfl⟩:=hx;have:=h j O
 simpa using this
section
variable (aB:Array aj) (cur:ByteArray) (y m p:Int) (cl:List Acc) (cA:Option aG) (cc:Nat) (ro:dZ) (el:List aY) (eA:Option aG) (ec:Nat) (w:Z)
theorem aeS (HG:Hid (aB= #[av cur,G F y,G F m,G F p,T cA cl.length cc,G F ro.dU,G F ro.dR,G F ro.dO,G F ro.inventory,G F ro.reserve,G F ro.dV,G F ro.dJ,G F ro.acquired,G F ro.dX,G F ro.dP,G F ro.dN,G F ro.dQ,G F ro.dW,G F ro.difference,G F ro.dL,T eA el.length ec])) (h:eB w cl cA el eA) (hF:lY cur cl el):aF ak 134 #[az aB] w (fD (Gr.bk cur cl ro (ax.ok y m p)) w):=by
 have hn:cl.length<=300000:=by have:=hF.ch;omega
 have hcs:cur.size<=bK:=hF.cur;have H:=I h;clear h hF;have hgi:(ak.info? 29).map (·.size)=N aB.size:=by rw[HG.out];exact gy
 have hb:Below w.heap.size w (w.alloc (U aB 29)):=(aD _ _).alloc (aC _) _;have HB:=I (au.new w 29 aB);have e0:(w.alloc (U aB 29)).cell? ⟨w.heap.size,0,J⟩=N (av cur):=(HB.out.cell 0).trans aQ;have e1:(w.alloc (U aB 29)).cell? ⟨w.heap.size,1,J⟩=N (G F y):=(HB.out.cell 1).trans aQ;have e2:(w.alloc (U aB 29)).cell? ⟨w.heap.size,2,J⟩=N (G F m):=(HB.out.cell 2).trans aQ;have e3:(w.alloc (U aB 29)).cell? ⟨w.heap.size,3,J⟩=N (G F p):=(HB.out.cell 3).trans aQ;have HD:Hid (Gr.bk cur cl ro (ax.ok y m p)=(Gr.ed cur&&(ax.ok y m p&&Gr.lH cl (Gr.dG ro)))):=I rfl;generalize Gr.bk cur cl ro (ax.ok y m p)=V at*
 cases gT:Gr.ed cur
 ·have HE:Hid (V=ag):=I (by rw[HD.out,gT];rfl);have lD:=I gT;clear gT;go_enter Tryz.func134,Tryz.ntmps134;go_wp2_with
   (go_at_call 191;refine((Fj cur _ hcs)).mono ?_;rintro e w2 ⟨rfl,rfl⟩;rw[lD.out])
  go_ret;exact⟨by rw[HE.out];rfl,hb⟩
 ·have lD:=I gT
  cases tY:ax.ok y m p
  ·have HE:Hid (V=ag):=I (by rw[HD.out,tY];simp);have vL:=I tY;clear gT tY;go_enter Tryz.func134,Tryz.ntmps134;go_wp2_with (first
    |(go_at_call 191;refine((Fj cur _ hcs)).mono ?_;rintro e w2 ⟨rfl,rfl⟩;rw[lD.out])
    |(go_at_call 192;refine(Pf y m p _).mono ?_;rintro e w2 ⟨rfl,hb2⟩;rw[vL.out];replace hb:=ay hb hb2;have HB2:=I (HB.out.step hb2);clear hb2;have g4:w2.cell? ⟨w.heap.size,4,J⟩=N (T cA cl.length cc):=(HB2.out.cell 4).trans aQ))
   go_ret;exact⟨by rw[HE.out];rfl,hb⟩
  ·have vL:=I tY;rw[gT,tY,qC,qC]at HD;clear gT tY
   cases hva:Ch.mG cl ae
   ·have HE:Hid (V=ag):=I (by rw[HD.out];unfold Gr.lH;rw[hva];rfl);have Nt:=I hva;clear hva;go_enter Tryz.func134,Tryz.ntmps134;go_wp2_with (first
     |(go_at_call 191;refine((Fj cur _ hcs)).mono ?_;rintro e w2 ⟨rfl,rfl⟩;rw[lD.out])
     |(go_at_call 192;refine(Pf y m p _).mono ?_;rintro e w2 ⟨rfl,hb2⟩;rw[vL.out];replace hb:=ay hb hb2;have HB2:=I (HB.out.step hb2);clear hb2;have g4:w2.cell? ⟨w.heap.size,4,J⟩=N (T cA cl.length cc):=(HB2.out.cell 4).trans aQ)
     |(go_at_call 193;refine(Bg cl ae cA cc _ (H.out.step hb).ch hn).mono ?_;rintro e w3 ⟨rfl,hb3⟩;rw[Nt.out];replace hb:=ay hb hb3;have HB3:=I (HB2.out.step hb3);clear hb3))
    go_ret;exact⟨by rw[HE.out];rfl,hb⟩
   ·have Nt:=I hva;clear hva;go_enter Tryz.func134,Tryz.ntmps134;go_wp2_with (first
     |(go_at_call 191;refine((Fj cur _ hcs)).mono ?_;rintro e w2 ⟨rfl,rfl⟩;rw[lD.out])
     |(go_at_call 192;refine(Pf y m p _).mono ?_;rintro e w2 ⟨rfl,hb2⟩;rw[vL.out];replace hb:=ay hb hb2;have HB2:=I (HB.out.step hb2);clear hb2;have g4:w2.cell? ⟨w.heap.size,4,J⟩=N (T cA cl.length cc):=(HB2.out.cell 4).trans aQ)
     |(go_at_call 193;refine(Bg cl ae cA cc _ (H.out.step hb).ch hn).mono ?_;rintro e w3 ⟨rfl,hb3⟩;rw[Nt.out];replace hb:=ay hb hb3;have HB3:=I (HB2.out.step hb3);clear hb3))
    clear e0 e1 e2 e3 g4 HB HB2;go_loopw [3] (λt wr=> ∃ k:Nat,k<=cl.length/\(∀ j,j<k->Gr.uJ (cl.getD j Ch.zero)=ae)/\t= G F k/\Below w3.heap.size w3 wr) (λt _=>cl.length - (intOf t).toNat)
    case atStart=>exact⟨0,O,λj h=>O,rfl,aD _ _⟩
    case round=>
     obtain⟨k,hk,hno,rfl,hbr⟩:=hrel;have HN:=I hno;clear hno;have dY:=I (HB3.out.step hbr);have hbw:=ay hb hbr;have e4:wr.cell? ⟨w.heap.size,4,J⟩=N (T cA cl.length cc):=(dY.out.cell 4).trans aQ
     by_cases hlt:k<cl.length
     ·obtain⟨b,o,hA,aX,f0,f1,f2,f3⟩:=Ch.at_ (Rd.now H.out.ch hbw) hlt;subst hA
      cases hq:Gr.uJ cl[k]
      ·have HE:Hid (V=ag):=I (by rw[HD.out];unfold Gr.lH Gr.Af;rw[kD hlt (by rw[Ch.getD_at cl k hlt,hq])];simp);have HQ:=I hq;clear hq;go_wp2_with (go_at_call 194;refine(abn cl[k] _).mono ?_;rintro e w4 ⟨rfl,hb4⟩;rw[HQ.out];replace hbw:=ay hbw hb4;clear hb4);go_ret;exact⟨by rw[HE.out];rfl,hbw⟩
      ·have HO:Hid (Gr.uJ (cl.getD k Ch.zero)=ae):=I (by rw[Ch.getD_at cl k hlt,hq]);have HQ:=I hq;clear hq;go_wp2_with (go_at_call 194;refine(abn cl[k] _).mono ?_;rintro e w4 ⟨rfl,hb4⟩;rw[HQ.out];replace hbr:=ay hbr hb4;clear hb4);go_roundw
       case rel=>exact⟨k+1,O,Be HN.out HO.out,by go_num,hbr⟩
       case measure=>simp[intOf];omega
     ·have vJ:Hid (Gr.Af cl=ae):=I (nT λj hj=>HN.out j O);clear HB3 hb;have g5:wr.cell? ⟨w.heap.size,5,J⟩=N (G F ro.dU):=(dY.out.cell 5).trans aQ;have g6:wr.cell? ⟨w.heap.size,6,J⟩=N (G F ro.dR):=(dY.out.cell 6).trans aQ;have g7:wr.cell? ⟨w.heap.size,7,J⟩=N (G F ro.dO):=(dY.out.cell 7).trans aQ;have g8:wr.cell? ⟨w.heap.size,8,J⟩=N (G F ro.inventory):=(dY.out.cell 8).trans aQ;have g9:wr.cell? ⟨w.heap.size,9,J⟩=N (G F ro.reserve):=(dY.out.cell 9).trans aQ;have g10:wr.cell? ⟨w.heap.size,10,J⟩=N (G F ro.dV):=(dY.out.cell 10).trans aQ;have g11:wr.cell? ⟨w.heap.size,11,J⟩=N (G F ro.dJ):=(dY.out.cell 11).trans aQ;have g12:wr.cell? ⟨w.heap.size,12,J⟩=N (G F ro.acquired):=(dY.out.cell 12).trans aQ;have g13:wr.cell? ⟨w.heap.size,13,J⟩=N (G F ro.dX):=(dY.out.cell 13).trans aQ;have g14:wr.cell? ⟨w.heap.size,14,J⟩=N (G F ro.dP):=(dY.out.cell 14).trans aQ;have g15:wr.cell? ⟨w.heap.size,15,J⟩=N (G F ro.dN):=(dY.out.cell 15).trans aQ;have g16:wr.cell? ⟨w.heap.size,16,J⟩=N (G F ro.dQ):=(dY.out.cell 16).trans aQ;have g17:wr.cell? ⟨w.heap.size,17,J⟩=N (G F ro.dW):=(dY.out.cell 17).trans aQ;have g18:wr.cell? ⟨w.heap.size,18,J⟩=N (G F ro.difference):=(dY.out.cell 18).trans aQ;have g19:wr.cell? ⟨w.heap.size,19,J⟩=N (G F ro.dL):=(dY.out.cell 19).trans aQ;go_wp2_with fail;clear e4 g5 g6 g7 g8 g9 g10 g11 g12 g13 g14 g15 g16 g17 g18 g19;refine(abM ro wr).mono ?_;rintro e w4 ⟨A,lc,rfl,hr,ah⟩;have hb:=ay hbw ah;have TQ:(Gr.dG ro).length<=15:=Qj (Gr.Pq ro);generalize Gr.dG ro=R at*;have HR:=I hr;have jS:=I (dY.out.step ah);clear hr ah dY hbw hbr;go_wp2_with fail;go_loopw [5] (λt wr=> ∃ k:Nat,k<=R.length/\(∀ j,j<k->Gr.uW cl R j=ae)/\t= G F k/\Below w4.heap.size w4 wr) (λt _=>R.length - (intOf t).toNat)
      case atStart=>exact⟨0,O,λj h=>O,rfl,aD _ _⟩
      case round=>
       obtain⟨k2,hk2,xZ,rfl,hbr⟩:=hrel;obtain⟨wo,rfl⟩: ∃ wo:Z,wo=wr:=⟨_,rfl⟩;have jm:=I xZ;clear xZ;have dY:=I (jS.out.step hbr);have hbw:=ay hb hbr
       by_cases hlt2:k2<R.length
       ·obtain⟨b,o,hA,aX,f0,f1,f2,f3,f4⟩:=eY.at_ (Rd.now HR.out hbr) hlt2;subst hA;have HX:Hid (Gr.uW cl R k2=(Ch.eO cl R[k2].code&&(!Gr.rX R k2&&(decide ((Ch.bU cl R[k2].code).kind=R[k2].kind)&&decide ((Ch.bU cl R[k2].code).basis=R[k2].basis))))):=I (by unfold Gr.uW;rw[getD_lt R k2 default hlt2]);generalize hx:R[k2]=x at*;have mg:=I hx;clear hx;obtain⟨nm,c,kd,bs,mp⟩:=x;dsimp only at*;have K1:=I (λW h=>aml aB cur y m p cl cA cc ro el eA ec W c HG h hn);unfold MN at K1;generalize Ch.bU cl c=a at*;generalize Ch.eO cl c=fb at*;have q1: ∀ d:Later wo,d.now.cell? ⟨b,o+k2*5+1,J⟩=N (G F c):=λd=>d.cell aX f1
        have tq:Hid (∀ W,Below wo.heap.size wo W->W.cell? ⟨b,o+k2*5+2,J⟩=N (G F kd)):=I (λW h=>(h.cell (p:=⟨b,o+k2*5+2,J⟩) aX).trans f2);have lF:Hid (∀ W,Below wo.heap.size wo W->W.cell? ⟨b,o+k2*5+3,J⟩=N (G F bs)):=I (λW h=>(h.cell (p:=⟨b,o+k2*5+3,J⟩) aX).trans f3);clear f0 f1 f2 f3 f4;go_upto_region 12 with fail
        go_cut [6,7] (λs6 s7 wx=> ∃ g:Nat,s6= aN (N ⟨g,0,J⟩)/\s7= .bool fb/\au wx g 212 #[G F a.code,G F a.kind,G F a.basis,G F a.parent]/\Below wo.heap.size wo wx)
        case first=>
         refine AZ (n:=13) (wo) ai rfl ?_;have hC:=gH.drew (wo);refine amK (i:=0) rfl 29 (.tmp 1) rfl (w.heap.size) rfl ai ai ai rfl (λ_ _ _ _ h=>h) hC (dY).out bQ hgi ?_;(try simp only[Zx]);have hT:=tg 1;(iterate 5 first|(refine aac hT hC ?_;clear hT;intro hT K hK;go_big_quiet_op;go_big_quiet_on)|(refine aaB hT hC ?_;clear hT;intro hT;simp only[Zx]));clear hT;refine UU (is:= [6,10]) ai aL ?_;intro j hj;simp only[fT,lV,lW]at hj
         rcases hj with rfl|rfl
         ·refine⟨_,rfl,rfl,?_⟩;intro K hK;go_simp;go_at_call 196;refine(K1.out _ (H.out.step (ay hbw hC.below))).mono ?_;rintro e w5 ⟨rfl,hb5⟩
          (try go_wp2_with fail)
          replace hC:=hC.on hb5;refine hK _ _ hC (λ_=> ?_);clear hK K
          (try simp only[Zx])
          have hT:=tg 7;(iterate 3 first|(refine aac hT hC ?_;clear hT;intro hT K hK;go_big_quiet_op;go_big_quiet_on)|(refine aaB hT hC ?_;clear hT;intro hT;simp only[Zx]));clear hT;have nX:=hC.below;refine mW (i:=10) ai rfl rfl ?_;intro K hK;go_simp;have hC2:=hC.below;refine hK _ _ (gH.of (by repeat (first|exact hC2|refine Below.alloc ?_ (by have hbs:=hC2.size;first|omega|(simp;done)|(simp at hbs |-;omega)) _|refine Below.drew ?_|refine iC ?_ _))) ?_;clear hK K hC hC2;intro hC;(try simp only[Zx]);refine mW (i:=11) ai rfl rfl ?_;intro K hK;go_simp;refine hK _ _ (gH.of (nX.alloc nX.size _)) ?_;clear hK K hC;intro hC
          (try simp only[Zx])
          (first|(refine aqx 12 hC ?_;intro K hK;go_big_quiet_op;go_big_quiet_on)|(refine aqw 12 hC ?_;simp only[Zx]))
          refine wpAnyH_done ai ?_ _;go_wp2_with fail;go_meet;exact⟨w5.heap.size,rfl,rfl,au.new w5 _ _,nX.alloc nX.size _⟩
         ·refine⟨_,rfl,rfl,?_⟩;intro K hK;go_simp;have J6:Below (wo).heap.size (wo) ((wo).alloc (U #[G F 0,G F 0,G F 0,G F 0] 212)).drew:=((aD _ _).alloc (aC _) _).drew;have hX:=(au.new (wo) 212 #[G F 0,G F 0,G F 0,G F 0]).drew;refine hK _ _ (gH.of J6) (λhC=> ?_);clear hK K;generalize ((wo).alloc (U #[G F 0,G F 0,G F 0,G F 0] 212)).drew=w4 at*
          (try simp only[Zx])
          refine mW (i:=6) ai rfl rfl ?_;intro K hK;go_simp;go_at_call 196;refine(K1.out _ (H.out.step (ay hbw hC.below))).mono ?_;rintro e w5 ⟨rfl,hb5⟩
          (try go_wp2_with fail)
          replace hC:=hC.on hb5;replace hX:=hX.step hb5;refine hK _ _ hC (λ_=> ?_);clear hK K
          (try simp only[Zx])
          have hT:=tg 7;(iterate 3 first|(refine aac hT hC ?_;clear hT;intro hT K hK;go_big_quiet_op;go_big_quiet_on)|(refine aaB hT hC ?_;clear hT;intro hT;simp only[Zx]));clear hT;refine mW (i:=11) ai rfl rfl ?_;intro K hK;have g0:w5.cell? ⟨(wo).heap.size,0,J⟩=N (G F 0):=hX.cell 0;have g1:w5.cell? ⟨(wo).heap.size,1,J⟩=N (G F 0):=hX.cell 1;have g2:w5.cell? ⟨(wo).heap.size,2,J⟩=N (G F 0):=hX.cell 2;have g3:w5.cell? ⟨(wo).heap.size,3,J⟩=N (G F 0):=hX.cell 3;have h0:w5.frozen? ⟨(wo).heap.size,0,J⟩=ag:=hX.frozen 0;have h1:w5.frozen? ⟨(wo).heap.size,1,J⟩=ag:=hX.frozen 1;have h2:w5.frozen? ⟨(wo).heap.size,2,J⟩=ag:=hX.frozen 2;have h3:w5.frozen? ⟨(wo).heap.size,3,J⟩=ag:=hX.frozen 3;go_simp;have hZ:Below (wo).heap.size (wo) ((((w5.setCell ⟨(wo).heap.size,0,J⟩ (G F a.code)).setCell ⟨(wo).heap.size,1,J⟩ (G F a.kind)).setCell ⟨(wo).heap.size,2,J⟩ (G F a.basis)).setCell ⟨(wo).heap.size,3,J⟩ (G F a.parent)):=
           (((hC.below.setCell aL _).setCell aL _).setCell aL _).setCell aL _
          have hY:=(((hX.bZ 0 (G F a.code)).bZ 1 (G F a.kind)).bZ 2 (G F a.basis)).bZ 3 (G F a.parent);refine hK _ _ (gH.of hZ) ?_;clear hC;intro hC;clear hK K g0 g1 g2 g3 h0 h1 h2 h3;generalize ((((w5.setCell ⟨(wo).heap.size,0,J⟩ (G F a.code)).setCell ⟨(wo).heap.size,1,J⟩ (G F a.kind)).setCell ⟨(wo).heap.size,2,J⟩ (G F a.basis)).setCell ⟨(wo).heap.size,3,J⟩ (G F a.parent))=w6 at*
          (try simp only[Zx])
          (first|(refine aqx 12 hC ?_;intro K hK;go_big_quiet_op;go_big_quiet_on)|(refine aqw 12 hC ?_;simp only[Zx]))
          refine wpAnyH_done ai ?_ _;go_wp2_with fail;go_meet;exact⟨(wo).heap.size,rfl,rfl,hY,hZ⟩
        case rest=>
         obtain⟨g,rfl,rfl,Au,ah⟩:=hcut;have hbx:=ay hbw ah;have ah4:=ay hbr ah;have p1: ∀ d:Later wc,d.now.cell? ⟨g,1,J⟩=N (G F a.kind):=λd=>d.cell Au.lt (Au.cell 1)
         have p2: ∀ d:Later wc,d.now.cell? ⟨g,2,J⟩=N (G F a.basis):=λd=>d.cell Au.lt (Au.cell 2)
         have q2: ∀ d:Later wc,d.now.cell? ⟨b,o+k2*5+2,J⟩=N (G F kd):=λd=>tq.out _ (ay ah d.below)
         have q3: ∀ d:Later wc,d.now.cell? ⟨b,o+k2*5+3,J⟩=N (G F bs):=λd=>lF.out _ (ay ah d.below)
         have Jr:=I HX.out;clear q1 HX dY K1 Au
         cases fb
         ·have HE:Hid (V=ag):=I (by rw[HD.out];exact BS hlt2 (by rw[Jr.out];rfl));go_wp2_with fail;refine eX ai ai ?_;(repeat (go_big_quiet_step ((fail))));refine wpQuiet_nil ?_;rintro _ ⟨dq,rfl⟩;have hbe:=ay hbx dq.below;go_wp2_with fail;go_ret;exact⟨by rw[HE.out];rfl,hbe⟩
         ·cases hk3:(a.kind !=kd)
          ·cases hs3:(a.basis !=bs)
           ·have HO:Hid (Gr.uW cl R k2= !Gr.rX R k2):=I (by rw[Jr.out];simp at hk3 hs3;simp[hk3,hs3]);go_wp2_with fail;refine eX ai ai ?_;(repeat (go_big_quiet_step ((fail))));refine wpQuiet_nil ?_;rintro _ ⟨dq,rfl⟩;have hbd:=ay ah4 dq.below;have ah2:=ay ah dq.below;clear p1 p2 q2 q3 hk3 hs3 Jr;have iU:Hid (∀ W,Below dq.now.heap.size dq.now W-> ∀ j (hj:j<R.length),W.cell? ⟨b,o+j*5+1,J⟩=N (G F (R[j]'hj).code)):=I (λW h j hj=>by
             obtain⟨b',o',hA',tX,-,f1,-,-,-⟩:=eY.at_ (Rd.now HR.out (ay hbd h)) hj;injection hA' with hA'
             injection hA' with hA1 hA2
             subst hA1 hA2;exact f1)
            have hbl:b<dq.now.heap.size:=by have:=ah2.size;omega
            generalize dq.now=W6 at*;go_wp2_with fail;go_loopw [8] (λt wr=> ∃ j:Nat,j<=k2/\(∀ i (h:i<k2),i<j->(R[i]'O).code≠R[k2].code)/\t= G F j/\Below W6.heap.size W6 wr) (λt _=>k2 - (intOf t).toNat)
            case atStart=>exact⟨0,O,λi _ h=>O,rfl,aD _ _⟩
            case round=>
             obtain⟨j,hj,CV,rfl,hbi⟩:=hrel;have yP:=I CV;clear CV
             by_cases hjk:j<k2
             ·have hjl:j<R.length:=O;have apG:b<wr.heap.size:=by have:=hbi.size;omega
              have q1: ∀ d:Later wr,d.now.cell? ⟨b,o+j*5+1,J⟩=N (G F (R[j]'hjl).code):=λd=>iU.out _ (ay hbi d.below) j hjl
              have q2: ∀ d:Later wr,d.now.cell? ⟨b,o+k2*5+1,J⟩=N (G F c):=λd=>by rw[iU.out _ (ay hbi d.below) k2 hlt2,mg.out]
              cases hf:((R[j]'hjl).code==c)
              ·have oG:Hid ((R[j]'hjl).code≠R[k2].code):=I (by rw[mg.out];simpa using hf);go_wp2_with fail;refine eX ai ai ?_;(repeat (go_big_quiet_step ((fail))));refine wpQuiet_nil ?_;rintro _ ⟨dq,rfl⟩;have hbe:=ay hbi dq.below;go_wp2_with fail;go_roundw
               case rel=>
                refine⟨j+1,O,λi hi hij=> ?_,by go_num,hbe⟩
                by_cases e:i=j
                ·subst e;exact oG.out
                ·exact yP.out i hi O
               case measure=>simp[intOf];omega
              ·have HE:Hid (V=ag):=I (by rw[HD.out];exact BS hlt2 (by rw[HO.out,afu hlt2 hjk (by rw[mg.out];simpa using hf)];rfl));go_wp2_with fail;refine eX ai ai ?_;(repeat (go_big_quiet_step ((fail))));refine wpQuiet_nil ?_;rintro _ ⟨dq,rfl⟩;have hbe:=ay hb (ay hbd (ay hbi dq.below));go_wp2_with fail;go_ret;exact⟨by rw[HE.out];rfl,hbe⟩
             ·have dx:Hid (Gr.uW cl R k2=ae):=I (by rw[HO.out,aft hlt2 λi hi=>yP.out i hi O];rfl);have hbe:=ay hbd hbi;go_wp2_with fail;go_roundw
              case rel=>exact⟨k2+1,O,Be jm.out dx.out,by go_num,hbe⟩
              case measure=>simp[intOf];omega
           ·have HE:Hid (V=ag):=I (by rw[HD.out];exact BS hlt2 (by rw[Jr.out];simp at hs3;simp[hs3]));go_wp2_with fail;refine eX ai ai ?_;(repeat (go_big_quiet_step ((fail))));refine wpQuiet_nil ?_;rintro _ ⟨dq,rfl⟩;have hbe:=ay hbx dq.below;go_wp2_with fail;go_ret;exact⟨by rw[HE.out];rfl,hbe⟩
          ·have HE:Hid (V=ag):=I (by rw[HD.out];exact BS hlt2 (by rw[Jr.out];simp at hk3;simp[hk3]));go_wp2_with fail;refine eX ai ai ?_;(repeat (go_big_quiet_step ((fail))));refine wpQuiet_nil ?_;rintro _ ⟨dq,rfl⟩;have hbe:=ay hbx dq.below;go_wp2_with fail;go_ret;exact⟨by rw[HE.out];rfl,hbe⟩
       ·have HE:Hid (V=ae):=I (by rw[HD.out];unfold Gr.lH Gr.Dk;rw[Nt.out,vJ.out,nT (λj hj=>jm.out j O)];rfl);go_wp2_with fail;go_ret;exact⟨by rw[HE.out];rfl,hbw⟩
end
theorem anX {R:List eY} {c:Int} {j:Nat} (hj:j<R.length) (h1:R[j].code=c) (h2:R[j].mapped=ag):Gr.shut R c=ae:=by
 unfold Gr.shut;rw[vG];exact⟨R[j],bP hj,by rw[h1,h2];simp⟩
theorem anW {R:List eY} {c:Int} (h: ∀ j (hj:j<R.length),¬ (R[j].code=c/\R[j].mapped=ag)):Gr.shut R c=ag:=by
 unfold Gr.shut;rw[uy];intro x hx;obtain⟨j,hj,rfl⟩:=iK.1 hx;have:=h j hj
 simpa using this
theorem agu {ch:List Acc} {R:List eY} {x:aY} (k:Nat) (hk:k<x.links.l.length) (h:Gr.shut R (x.links.l[k]).to=ae):Gr.nV ch R x=ag:=by
 unfold Gr.nV Gr.Fe;rw[kD hk (by rw[getD_lt _ _ _ hk,h];rfl)];simp
theorem agY {el:List aY} {k:Nat} (hk:k<el.length) (h:Gr.pI el k=ag):Cx el el[k].name=k:=by
 unfold Gr.pI at h;rw[getD_lt el k default hk,uy]at h;have e:iN (uS el[k].name) el=k:=Cs k hk (λj hj=>by
  have:=h (el[j]'O) (by rw[Dy];exact⟨j,O,rfl⟩);unfold uS;rw[aeM,Mo];intro e;rw[P8,P8]at e;exact this (by simpa using X8 e)) (by unfold uS;simp)
 unfold Cx;rw[e,bB O]
theorem agX {el:List aY} {k:Nat} (hk:k<el.length) (h:Gr.pI el k=ae):Cx el el[k].name≠k:=by
 unfold Gr.pI at h;rw[getD_lt el k default hk,vG]at h;obtain⟨x,hx,e⟩:=h;rw[Dy]at hx;obtain⟨j,hj,rfl⟩:=hx;have e:=iY e;unfold Cx iN
 cases hf:el.findIdx? (uS el[k].name) with
 |none=>
  rw[Io]at hf;have:=hf el[k] (bP hk);unfold uS at this;simp at this
 |some i=>
  rw[Im]at hf;obtain⟨hi,h1,h2⟩:=hf;have hij:i<=j:=Nat.not_lt.1 λhij=>by
   have:=h2 j hij;unfold uS at this;rw[e]at this;simp at this
  simp only;rw[bB O];omega
section
variable (aB:Array aj) (cur:ByteArray) (y m p:Int) (cl:List Acc) (cA:Option aG) (cc:Nat) (ro:dZ) (el:List aY) (eA:Option aG) (ec:Nat) (w:Z)
theorem amL (xn xc:ByteArray) (l1:List Acc) (A1:Option aG) (c1:Nat) (l2:List bV) (A2:Option aG) (c2:Nat) (xj:Bool) (HG:Hid (aB= #[av cur,G F y,G F m,G F p,T cA cl.length cc,G F ro.dU,G F ro.dR,G F ro.dO,G F ro.inventory,G F ro.reserve,G F ro.dV,G F ro.dJ,G F ro.acquired,G F ro.dX,G F ro.dP,G F ro.dN,G F ro.dQ,G F ro.dW,G F ro.difference,G F ro.dL,T eA el.length ec])) (h:eB w cl cA el eA) (hn:cl.length<=300000)
 (hx:aY.Ok w ⟨xn,xc,⟨l1,A1,c1⟩,⟨l2,A2,c2⟩,xj⟩) (hn1:l1.length<=300000) (hn2:l2.length<=300000):
 aF ak 136 #[az aB,az #[av xn,av xc,T A1 l1.length c1,T A2 l2.length c2,aA xj]] w (fD (Gr.nV cl (Gr.dG ro) ⟨xn,xc,⟨l1,A1,c1⟩,⟨l2,A2,c2⟩,xj⟩) w):=by
 have H:=I h;have hx1:xn.size<=bK:=hx.1;have hx2:xc.size<=bK:=hx.2.1;have gm:Hid (Rd w w.heap.size 4 A1 l1.length (Ch.cells l1)):=I (by rw[<- BR];exact hx.2.2.1.1.1);have gJ:Hid (Rd w w.heap.size 3 A2 l2.length (cellsOf bV.cells l2)):=I hx.2.2.2.1.1.1;clear h hx;have hb:Below w.heap.size w ((w.alloc (U aB 29)).alloc (U #[av xn,av xc,T A1 l1.length c1,T A2 l2.length c2,aA xj] 179)):=by
  have hb:=aD w.heap.size w;exact bC
 have HB:=I ((au.new w 29 aB).alloc (U #[av xn,av xc,T A1 l1.length c1,T A2 l2.length c2,aA xj] 179));have HX0:=au.new (w.alloc (U aB 29)) 179 #[av xn,av xc,T A1 l1.length c1,T A2 l2.length c2,aA xj];have ez:(w.alloc (U aB 29)).heap.size=w.heap.size+1:=aL;rw[ez]at HX0;have HX:=I HX0;clear ez HX0;have e4:((w.alloc (U aB 29)).alloc (U #[av xn,av xc,T A1 l1.length c1,T A2 l2.length c2,aA xj] 179)).cell? ⟨w.heap.size,4,J⟩=N (T cA cl.length cc):=(HB.out.cell 4).trans aQ;have HD:Hid (Gr.nV cl (Gr.dG ro) ⟨xn,xc,⟨l1,A1,c1⟩,⟨l2,A2,c2⟩,xj⟩=(Gr.jG xn&&(Gr.ed xc&&(Gr.jd l1 cl l2&&Gr.Fe (Gr.dG ro) l2)))):=I rfl;have eH:Hid (∀ k (hk:k<l2.length),Gr.shut (Gr.dG ro) (l2[k]).to=ae->Gr.nV cl (Gr.dG ro) ⟨xn,xc,⟨l1,A1,c1⟩,⟨l2,A2,c2⟩,xj⟩=ag):=I (λk hk h=>agu (x:=⟨xn,xc,⟨l1,A1,c1⟩,⟨l2,A2,c2⟩,xj⟩) k hk h);generalize Gr.nV cl (Gr.dG ro) ⟨xn,xc,⟨l1,A1,c1⟩,⟨l2,A2,c2⟩,xj⟩=V at*
 cases hnm:Gr.jG xn
 ·have HE:Hid (V=ag):=I (by rw[HD.out,hnm];rfl);have rJ:=I hnm;clear hnm;go_enter Tryz.func136,Tryz.ntmps136;go_wp2_with
   (go_at_call 197;refine((Po xn _ hx1)).mono ?_;rintro e w2 ⟨rfl,rfl⟩;rw[rJ.out])
  go_ret;exact⟨by rw[HE.out];rfl,hb⟩
 ·have rJ:=I hnm
  cases gT:Gr.ed xc
  ·have HE:Hid (V=ag):=I (by rw[HD.out,gT];simp);have lD:=I gT;clear gT hnm;go_enter Tryz.func136,Tryz.ntmps136;go_wp2_with (first
    |(go_at_call 197;refine((Po xn _ hx1)).mono ?_;rintro e w2 ⟨rfl,rfl⟩;rw[rJ.out])
    |(go_at_call 191;refine((Fj xc _ hx2)).mono ?_;rintro e w2 ⟨rfl,rfl⟩;rw[lD.out]))
   go_ret;exact⟨by rw[HE.out];rfl,hb⟩
  ·have lD:=I gT
   cases tZ:Gr.jd l1 cl l2
   ·have HE:Hid (V=ag):=I (by rw[HD.out,tZ];simp);have oF:=I tZ;clear tZ gT hnm;go_enter Tryz.func136,Tryz.ntmps136;go_wp2_with (first
     |(go_at_call 197;refine((Po xn _ hx1)).mono ?_;rintro e w2 ⟨rfl,rfl⟩;rw[rJ.out])
     |(go_at_call 191;refine((Fj xc _ hx2)).mono ?_;rintro e w2 ⟨rfl,rfl⟩;rw[lD.out])
     |(go_at_call 198;refine(abJ xn xc l1 A1 c1 l2 A2 c2 xj cl cA cc _ (Rd.now gm.out hb) (H.out.step hb).ch (Rd.now gJ.out hb) hn1 hn).mono ?_;rintro e w2 ⟨rfl,hb2⟩;rw[oF.out];replace hb:=ay hb hb2;have HB2:=I (HB.out.step hb2);have dn:=I (HX.out.step hb2);have g5:w2.cell? ⟨w.heap.size,5,J⟩=N (G F ro.dU):=(HB2.out.cell 5).trans aQ;have g6:w2.cell? ⟨w.heap.size,6,J⟩=N (G F ro.dR):=(HB2.out.cell 6).trans aQ;have g7:w2.cell? ⟨w.heap.size,7,J⟩=N (G F ro.dO):=(HB2.out.cell 7).trans aQ;have g8:w2.cell? ⟨w.heap.size,8,J⟩=N (G F ro.inventory):=(HB2.out.cell 8).trans aQ;have g9:w2.cell? ⟨w.heap.size,9,J⟩=N (G F ro.reserve):=(HB2.out.cell 9).trans aQ;have g10:w2.cell? ⟨w.heap.size,10,J⟩=N (G F ro.dV):=(HB2.out.cell 10).trans aQ;have g11:w2.cell? ⟨w.heap.size,11,J⟩=N (G F ro.dJ):=(HB2.out.cell 11).trans aQ;have g12:w2.cell? ⟨w.heap.size,12,J⟩=N (G F ro.acquired):=(HB2.out.cell 12).trans aQ;have g13:w2.cell? ⟨w.heap.size,13,J⟩=N (G F ro.dX):=(HB2.out.cell 13).trans aQ;have g14:w2.cell? ⟨w.heap.size,14,J⟩=N (G F ro.dP):=(HB2.out.cell 14).trans aQ;have g15:w2.cell? ⟨w.heap.size,15,J⟩=N (G F ro.dN):=(HB2.out.cell 15).trans aQ;have g16:w2.cell? ⟨w.heap.size,16,J⟩=N (G F ro.dQ):=(HB2.out.cell 16).trans aQ;have g17:w2.cell? ⟨w.heap.size,17,J⟩=N (G F ro.dW):=(HB2.out.cell 17).trans aQ;have g18:w2.cell? ⟨w.heap.size,18,J⟩=N (G F ro.difference):=(HB2.out.cell 18).trans aQ;have g19:w2.cell? ⟨w.heap.size,19,J⟩=N (G F ro.dL):=(HB2.out.cell 19).trans aQ))
    go_ret;exact⟨by rw[HE.out];rfl,hb⟩
   ·rw[tZ,gT,hnm,qC,qC,qC]at HD;have oF:=I tZ;clear tZ gT hnm;go_enter Tryz.func136,Tryz.ntmps136;go_wp2_with (first
     |(go_at_call 197;refine((Po xn _ hx1)).mono ?_;rintro e w2 ⟨rfl,rfl⟩;rw[rJ.out])
     |(go_at_call 191;refine((Fj xc _ hx2)).mono ?_;rintro e w2 ⟨rfl,rfl⟩;rw[lD.out])
     |(go_at_call 198;refine(abJ xn xc l1 A1 c1 l2 A2 c2 xj cl cA cc _ (Rd.now gm.out hb) (H.out.step hb).ch (Rd.now gJ.out hb) hn1 hn).mono ?_;rintro e w2 ⟨rfl,hb2⟩;rw[oF.out];replace hb:=ay hb hb2;have HB2:=I (HB.out.step hb2);have dn:=I (HX.out.step hb2);have g5:w2.cell? ⟨w.heap.size,5,J⟩=N (G F ro.dU):=(HB2.out.cell 5).trans aQ;have g6:w2.cell? ⟨w.heap.size,6,J⟩=N (G F ro.dR):=(HB2.out.cell 6).trans aQ;have g7:w2.cell? ⟨w.heap.size,7,J⟩=N (G F ro.dO):=(HB2.out.cell 7).trans aQ;have g8:w2.cell? ⟨w.heap.size,8,J⟩=N (G F ro.inventory):=(HB2.out.cell 8).trans aQ;have g9:w2.cell? ⟨w.heap.size,9,J⟩=N (G F ro.reserve):=(HB2.out.cell 9).trans aQ;have g10:w2.cell? ⟨w.heap.size,10,J⟩=N (G F ro.dV):=(HB2.out.cell 10).trans aQ;have g11:w2.cell? ⟨w.heap.size,11,J⟩=N (G F ro.dJ):=(HB2.out.cell 11).trans aQ;have g12:w2.cell? ⟨w.heap.size,12,J⟩=N (G F ro.acquired):=(HB2.out.cell 12).trans aQ;have g13:w2.cell? ⟨w.heap.size,13,J⟩=N (G F ro.dX):=(HB2.out.cell 13).trans aQ;have g14:w2.cell? ⟨w.heap.size,14,J⟩=N (G F ro.dP):=(HB2.out.cell 14).trans aQ;have g15:w2.cell? ⟨w.heap.size,15,J⟩=N (G F ro.dN):=(HB2.out.cell 15).trans aQ;have g16:w2.cell? ⟨w.heap.size,16,J⟩=N (G F ro.dQ):=(HB2.out.cell 16).trans aQ;have g17:w2.cell? ⟨w.heap.size,17,J⟩=N (G F ro.dW):=(HB2.out.cell 17).trans aQ;have g18:w2.cell? ⟨w.heap.size,18,J⟩=N (G F ro.difference):=(HB2.out.cell 18).trans aQ;have g19:w2.cell? ⟨w.heap.size,19,J⟩=N (G F ro.dL):=(HB2.out.cell 19).trans aQ))
    clear e4 g5 g6 g7 g8 g9 g10 g11 g12 g13 g14 g15 g16 g17 g18 g19 HB HX hb2;refine(abM ro w2).mono ?_;rintro e w4 ⟨A,lc,rfl,hr,ah⟩;replace hb:=ay hb ah;have TQ:(Gr.dG ro).length<=15:=Qj (Gr.Pq ro);generalize Gr.dG ro=R at*;have HR:=I hr;have gL:=I (dn.out.step ah);clear hr ah HB2 dn;go_wp2_with fail;go_loopw [6] (λt wr=> ∃ k:Nat,k<=l2.length/\(∀ j,j<k->(!Gr.shut R (l2.getD j default).to)=ae)/\t= G F k/\Below w4.heap.size w4 wr) (λt _=>l2.length - (intOf t).toNat)
    case atStart=>exact⟨0,O,λj h=>O,rfl,aD _ _⟩
    case round=>
     obtain⟨k,hk,hno,rfl,hbr⟩:=hrel;obtain⟨wo,rfl⟩: ∃ wo:Z,wo=wr:=⟨_,rfl⟩;have HN:=I hno;clear hno;have hbw:=ay hb hbr;have hX:=gL.out.step hbr;have e3:wo.cell? ⟨w.heap.size+1,3,J⟩=N (T A2 l2.length c2):=hX.cell 3;have HXo:=I hX;clear hX
     by_cases hlt:k<l2.length
     ·obtain⟨b,o,hA,aX,f0,f1,f2⟩:=bV.at_ (Rd.now gJ.out hbw) hlt;subst hA;have rH:Hid (∀ W,Below wo.heap.size wo W->W.cell? ⟨b,o+k*3+1,J⟩=N (G F l2[k].to)):=I (λW h=>(h.cell (p:=⟨b,o+k*3+1,J⟩) aX).trans f1);have BG:Hid (∀ W,Below wo.heap.size wo W->W.cell? ⟨w.heap.size+1,3,J⟩=N (T (N ⟨b,o,J⟩) l2.length c2)):=I (λW h=>(HXo.out.step h).cell 3);clear f0 f1 f2;go_wp2_with fail;clear e3;go_loopw [7] (λt wr=> ∃ j:Nat,j<=R.length/\(∀ i (h:i<R.length),i<j-> ¬ (R[i].code=l2[k].to/\R[i].mapped=ag))/\t= G F j/\Below wo.heap.size wo wr) (λt _=>R.length - (intOf t).toNat)
      case atStart=>exact⟨0,O,λi _ h=>O,rfl,aD _ _⟩
      case round=>
       obtain⟨j,hj,CV,rfl,hbi⟩:=hrel;have yP:=I CV;clear CV
       by_cases hjl:j<R.length
       ·obtain⟨b',o',hA',tX,-,p1,-,-,p4⟩:=eY.at_ (Rd.now HR.out (ay hbr hbi)) hjl;subst hA';have q1: ∀ d:Later wr,d.now.cell? ⟨b,o+k*3+1,J⟩=N (G F l2[k].to):=λd=>rH.out _ (ay hbi d.below)
        have q3: ∀ d:Later wr,d.now.cell? ⟨w.heap.size+1,3,J⟩=N (T (N ⟨b,o,J⟩) l2.length c2):=λd=>BG.out _ (ay hbi d.below)
        have q4: ∀ d:Later wr,d.now.cell? ⟨b',o'+j*5+1,J⟩=N (G F R[j].code):=λd=>d.cell tX p1
        have q5: ∀ d:Later wr,d.now.cell? ⟨b',o'+j*5+4,J⟩=N (aA R[j].mapped):=λd=>d.cell tX p4
        clear p1 p4
        cases hf:(l2[k].to==R[j].code)
        ·have oG:Hid (¬ (R[j].code=l2[k].to/\R[j].mapped=ag)):=I (λe=>by simp at hf;exact hf e.1.symm);go_wp2_with fail;refine eX ai ai ?_;(repeat (go_big_quiet_step ((fail))));refine wpQuiet_nil ?_;rintro _ ⟨dq,rfl⟩;have hbe:=ay hbi dq.below;go_wp2_with fail;go_roundw
         case rel=>
          refine⟨j+1,O,λi hi hij=> ?_,by go_num,hbe⟩
          by_cases e:i=j
          ·subst e;exact oG.out
          ·exact yP.out i hi O
         case measure=>simp[intOf];omega
        ·cases hm:R[j].mapped
         ·have HE:Hid (V=ag):=I (eH.out k hlt (anX hjl (by simp at hf;exact hf.symm) hm));rw[hm]at q5;go_wp2_with fail;refine eX ai ai ?_;(repeat (go_big_quiet_step ((fail))));refine wpQuiet_nil ?_;rintro _ ⟨dq,rfl⟩;have hbe:=ay hbw (ay hbi dq.below);go_wp2_with fail;go_ret;exact⟨by rw[HE.out];rfl,hbe⟩
         ·have oG:Hid (¬ (R[j].code=l2[k].to/\R[j].mapped=ag)):=I (λe=>by rw[hm]at e;cases e.2);rw[hm]at q5;go_wp2_with fail;refine eX ai ai ?_;(repeat (go_big_quiet_step ((fail))));refine wpQuiet_nil ?_;rintro _ ⟨dq,rfl⟩;have hbe:=ay hbi dq.below;go_wp2_with fail;go_roundw
          case rel=>
           refine⟨j+1,O,λi hi hij=> ?_,by go_num,hbe⟩
           by_cases e:i=j
           ·subst e;exact oG.out
           ·exact yP.out i hi O
          case measure=>simp[intOf];omega
       ·have dx:Hid ((!Gr.shut R (l2.getD k default).to)=ae):=I (by rw[getD_lt l2 k default hlt,anW λi hi=>yP.out i hi O];rfl);have hbe:=ay hbr hbi;go_wp2_with fail;go_roundw
        case rel=>exact⟨k+1,O,Be HN.out dx.out,by go_num,hbe⟩
        case measure=>simp[intOf];omega
     ·have HE:Hid (V=ae):=I (by rw[HD.out];unfold Gr.Fe;exact nT λj hj=>HN.out j O);go_wp2_with fail;go_ret;exact⟨by rw[HE.out];rfl,hbw⟩
end
theorem ahl (cur:ByteArray) (cl:List Acc) (ro:dZ) (el:List aY) (nU:Bool):
 Gr.gv cur cl ro el nU=(Gr.bk cur cl ro nU&&(decide (1<=el.length)&&(decide (el.length<=12)&&(!(el.getD 0 default).joint&&Gr.uM cl (Gr.dG ro) el)))):=by
 unfold Gr.gv Gr.bk
 cases Gr.ed cur<;>cases nU<;>simp
section
variable (aB:Array aj) (cur:ByteArray) (y m p:Int) (cl:List Acc) (cA:Option aG) (cc:Nat) (ro:dZ) (el:List aY) (eA:Option aG) (ec:Nat) (w:Z)
theorem abG (HG:Hid (aB= #[av cur,G F y,G F m,G F p,T cA cl.length cc,G F ro.dU,G F ro.dR,G F ro.dO,G F ro.inventory,G F ro.reserve,G F ro.dV,G F ro.dJ,G F ro.acquired,G F ro.dX,G F ro.dP,G F ro.dN,G F ro.dQ,G F ro.dW,G F ro.difference,G F ro.dL,T eA el.length ec])) (h:eB w cl cA el eA) (hF:lY cur cl el):aF ak 89 #[az aB] w (fD (Gr.gv cur cl ro el (ax.ok y m p)) w):=by
 have hn:cl.length<=300000:=by have:=hF.ch;omega
 have hel:=hF.en;have HF:=I hF.EE;have H:=I h;have KB:=I (λW h=>aeS aB cur y m p cl cA cc ro el eA ec W HG h hF);clear h hF;have hgi:(ak.info? 29).map (·.size)=N aB.size:=by rw[HG.out];exact gy
 have hb:Below w.heap.size w (w.alloc (U aB 29)):=(aD _ _).alloc (aC _) _;have HB:=I (au.new w 29 aB);have HD:=I (ahl cur cl ro el (ax.ok y m p));generalize Gr.gv cur cl ro el (ax.ok y m p)=V at*;generalize Zv:Gr.bk cur cl ro (ax.ok y m p)=BK at*;have aph:=I Zv;clear Zv
 cases BK
 ·have HE:Hid (V=ag):=I (by rw[HD.out];rfl);have wZ:Hid (ae=ae):=I rfl;clear wZ;go_enter Tryz.func89,MJ;go_wp2_with (first
   |(refine cZ 29 (.tmp 1) rfl (w.heap.size) rfl ai (HB).out bQ hgi ?_)
   |(go_at_call 134;refine(KB.out _ (H.out.step hb)).mono ?_;rintro e w3 ⟨rfl,hb3⟩;replace hb:=ay hb hb3))
  go_ret;exact⟨by rw[HE.out];rfl,hb⟩
 ·rw[qC]at HD
  by_cases h1:1<=el.length
  ·obtain⟨b,o,hA,aX,f0,f1,f2,f3,f4⟩:=aY.at_ (k:=0) H.out.en h1;subst hA;have pO:Hid (∀ W,Below w.heap.size w W->W.cell? ⟨b,o+4,J⟩=N (aA (el[0]'h1).joint)):=I (λW hb=>(hb.cell (p:=⟨b,o+4,J⟩) aX).trans (by simpa using f4));clear f0 f1 f2 f3 f4;rw[getD_lt el 0 default h1]at HD
   by_cases h12:el.length<=12
   ·cases hj:(el[0]'h1).joint
    ·rw[hj]at pO;have HJ:=I hj;clear hj;go_enter Tryz.func89,MJ;go_wp2_with (first
      |(refine cZ 29 (.tmp 1) rfl (w.heap.size) rfl ai (HB).out bQ hgi ?_)
      |(go_at_call 134;refine(KB.out _ (H.out.step hb)).mono ?_;rintro e w3 ⟨rfl,hb3⟩;replace hb:=ay hb hb3;have HB3:=I (HB.out.step hb3);clear hb3;have g20:w3.cell? ⟨w.heap.size,20,J⟩=N (T (N ⟨b,o,J⟩) el.length ec):=(HB3.out.cell 20).trans aQ;have g0:=pO.out w3 hb))
     clear pO g20 g0 HB;go_loopw [3] (λt wr=> ∃ k:Nat,k<=el.length/\(∀ j,j<k->(!Gr.pI el j&&Gr.nV cl (Gr.dG ro) (el.getD j default))=ae)/\t= G F k/\Below w3.heap.size w3 wr) (λt _=>el.length - (intOf t).toNat)
     case atStart=>exact⟨0,O,λj h=>O,rfl,aD _ _⟩
     case round=>
      obtain⟨k,hk,hno,rfl,hbr⟩:=hrel;obtain⟨wo,rfl⟩: ∃ wo:Z,wo=wr:=⟨_,rfl⟩;have HN:=I hno;clear hno;have dY:=I (HB3.out.step hbr);have hbw:=ay hb hbr;have g20:wo.cell? ⟨w.heap.size,20,J⟩=N (T (N ⟨b,o,J⟩) el.length ec):=(dY.out.cell 20).trans aQ
      by_cases hlt:k<el.length
      ·obtain⟨b',o',hA',tX,f0,f1,f2,f3,f4⟩:=aY.at_ (Rd.now H.out.en hbw) hlt;injection hA' with hA'
       injection hA' with hA1 hA2
       subst hA1 hA2;have dx:=I (H.out.ok _ (bP hlt));have CQ:=HF.out k hlt;have HX:Hid (el.getD k default=el[k]):=I (getD_lt el k default hlt);have HFH:=I (agY (el:=el) hlt);have MZ:=I (agX (el:=el) hlt);have vK:Hid (∀ W,Below wo.heap.size wo W->W.cell? ⟨b,o+k*5,J⟩=N (av el[k].name)/\W.cell? ⟨b,o+k*5+1,J⟩=N (av el[k].cK)/\W.cell? ⟨b,o+k*5+2,J⟩=N (el[k].jw.val)/\W.cell? ⟨b,o+k*5+3,J⟩=N (el[k].links.val)/\W.cell? ⟨b,o+k*5+4,J⟩=N (aA el[k].joint)):=I (λW h=>
        ⟨(h.cell (p:=⟨b,o+k*5,J⟩) tX).trans f0,(h.cell (p:=⟨b,o+k*5+1,J⟩) tX).trans f1,(h.cell (p:=⟨b,o+k*5+2,J⟩) tX).trans f2,(h.cell (p:=⟨b,o+k*5+3,J⟩) tX).trans f3,(h.cell (p:=⟨b,o+k*5+4,J⟩) tX).trans f4⟩)
       generalize el[k]=x at*;obtain⟨xn,xc,⟨l1,A1,c1⟩,⟨l2,A2,c2⟩,xj⟩:=x;dsimp only[Sl.val]at*;have KF:=I (λW h=>HG.out.symm ▸ ahh cur y m p cl cA cc ro el (N ⟨b,o,J⟩) ec W xn h O);have q0: ∀ d:Later wo,d.now.cell? ⟨b,o+k*5,J⟩=N (av xn):=λd=>d.cell tX f0
       have q20: ∀ d:Later wo,d.now.cell? ⟨w.heap.size,20,J⟩=N (T (N ⟨b,o,J⟩) el.length ec):=λd=>d.cell dY.out.lt g20
       clear f0 f1 f2 f3 f4;generalize Cx el xn=fi at*;generalize Oi el xn=fb at*;go_wp2_with fail;clear g20;refine eX ai ai ?_
       (repeat (go_big_quiet_step ((fail))));refine zq 29 (.tmp 1) rfl (w.heap.size) rfl ai (dY).out bQ hgi ?_;(try simp only[Zx])
       (repeat (go_big_quiet_step ((fail))));go_big_quiet_step ((go_at_call 135;exact Later.call _ (KF.out _ (H.out.step (ay hbw (Later.below _))))))
       (repeat (go_big_quiet_step ((fail))));refine wpQuiet_nil ?_;rintro _ ⟨dq,rfl⟩
       have hbd:=ay hbw dq.below;have CJ:=ay hbr dq.below;have MU:=I (dY.out.step dq.below);have hcell:=vK.out _ dq.below;have hbl:b<dq.now.heap.size:=by have:=dq.below.size;omega
       clear q0 q20 KF;generalize dq.now=W6 at*
       cases hne:(fi !=(k:Int))
       ·have mM:Hid (Gr.pI el k=ag):=I (by
         cases ah:Gr.pI el k
         ·rfl
         ·have:=MZ.out ah;simp at hne;exact absurd hne this)
        obtain⟨r0,r1,r2,r3,r4⟩:=hcell;have q0: ∀ d:Later W6,d.now.cell? ⟨b,o+k*5,J⟩=N (av xn):=λd=>d.cell hbl r0
        have q1: ∀ d:Later W6,d.now.cell? ⟨b,o+k*5+1,J⟩=N (av xc):=λd=>d.cell hbl r1
        have q2: ∀ d:Later W6,d.now.cell? ⟨b,o+k*5+2,J⟩=N (T A1 l1.length c1):=λd=>d.cell hbl r2
        have q3: ∀ d:Later W6,d.now.cell? ⟨b,o+k*5+3,J⟩=N (T A2 l2.length c2):=λd=>d.cell hbl r3
        have q4: ∀ d:Later W6,d.now.cell? ⟨b,o+k*5+4,J⟩=N (aA xj):=λd=>d.cell hbl r4
        have q20: ∀ d:Later W6,d.now.cell? ⟨w.heap.size,20,J⟩=N (T (N ⟨b,o,J⟩) el.length ec):=λd=>d.cell MU.out.lt ((MU.out.cell 20).trans aQ)
        clear r0 r1 r2 r3 r4;have KE:=I (λW h=>amL aB cur y m p cl cA cc ro el (N ⟨b,o,J⟩) ec W xn xc l1 A1 c1 l2 A2 c2 xj HG (H.out.step h) hn (dx.out.step h) O O)
        cases hev:Gr.nV cl (Gr.dG ro) ⟨xn,xc,⟨l1,A1,c1⟩,⟨l2,A2,c2⟩,xj⟩
        ·have HE:Hid (V=ag):=I (by rw[HD.out];unfold Gr.uM;rw[kD hlt (by rw[HX.out,hev];simp)];simp);rw[hev]at KE;clear hev;go_wp2_with fail;refine eX ai ai ?_
         (repeat (go_big_quiet_step ((fail))));refine zq 29 (.tmp 1) rfl (w.heap.size) rfl ai (MU).out bQ hgi ?_;(try simp only[Zx])
         (repeat (go_big_quiet_step ((fail))));go_big_quiet_step ((go_at_call 136;exact Later.call _ (KE.out _ (ay hbd (Later.below _)))))
         (repeat (go_big_quiet_step ((fail))));refine wpQuiet_nil ?_;rintro _ ⟨dq,rfl⟩
         have hbe:=ay hbd dq.below;go_wp2_with fail;go_ret;exact⟨by rw[HE.out];rfl,hbe⟩
        ·have HO:Hid ((!Gr.pI el k&&Gr.nV cl (Gr.dG ro) (el.getD k default))=ae):=I (by rw[HX.out,mM.out,hev];rfl);rw[hev]at KE;clear hev;go_wp2_with fail;refine eX ai ai ?_
         (repeat (go_big_quiet_step ((fail))));refine zq 29 (.tmp 1) rfl (w.heap.size) rfl ai (MU).out bQ hgi ?_;(try simp only[Zx])
         (repeat (go_big_quiet_step ((fail))));go_big_quiet_step ((go_at_call 136;exact Later.call _ (KE.out _ (ay hbd (Later.below _)))))
         (repeat (go_big_quiet_step ((fail))));refine wpQuiet_nil ?_;rintro _ ⟨dq,rfl⟩
         have hbe:=ay CJ dq.below;go_wp2_with fail;go_roundw
         case rel=>exact⟨k+1,O,Be HN.out HO.out,by go_num,hbe⟩
         case measure=>simp[intOf];omega
       ·have mM:Hid (Gr.pI el k=ae):=I (by
         cases ah:Gr.pI el k
         ·have:=HFH.out ah;simp at hne;exact absurd this hne
         ·rfl)
        have HE:Hid (V=ag):=I (by rw[HD.out];unfold Gr.uM;rw[kD hlt (by rw[mM.out];rfl)];simp);clear hcell;go_wp2_with fail;refine eX ai ai ?_;(repeat (go_big_quiet_step ((fail))));refine wpQuiet_nil ?_;rintro _ ⟨dq,rfl⟩;have hbe:=ay hbd dq.below;go_wp2_with fail;go_ret;exact⟨by rw[HE.out];rfl,hbe⟩
      ·have HE:Hid (V=ae):=I (by rw[HD.out,HJ.out];unfold Gr.uM;rw[nT (λj hj=>HN.out j O)];simp[h12];omega);go_wp2_with fail;go_ret;exact⟨by rw[HE.out];rfl,hbw⟩
    ·have HE:Hid (V=ag):=I (by rw[HD.out];simp[hj]);rw[hj]at pO;clear hj;go_enter Tryz.func89,MJ;go_wp2_with (first
      |(refine cZ 29 (.tmp 1) rfl (w.heap.size) rfl ai (HB).out bQ hgi ?_)
      |(go_at_call 134;refine(KB.out _ (H.out.step hb)).mono ?_;rintro e w3 ⟨rfl,hb3⟩;replace hb:=ay hb hb3;have HB3:=I (HB.out.step hb3);clear hb3;have g20:w3.cell? ⟨w.heap.size,20,J⟩=N (T (N ⟨b,o,J⟩) el.length ec):=(HB3.out.cell 20).trans aQ;have g0:=pO.out w3 hb))
     go_ret;exact⟨by rw[HE.out];rfl,hb⟩
   ·have HE:Hid (V=ag):=I (by rw[HD.out];simp[h12]);have aho:12<el.length:=O;go_enter Tryz.func89,MJ;go_wp2_with (first
     |(refine cZ 29 (.tmp 1) rfl (w.heap.size) rfl ai (HB).out bQ hgi ?_)
     |(go_at_call 134;refine(KB.out _ (H.out.step hb)).mono ?_;rintro e w3 ⟨rfl,hb3⟩;replace hb:=ay hb hb3;have HB3:=I (HB.out.step hb3);clear hb3;have g20:w3.cell? ⟨w.heap.size,20,J⟩=N (T (N ⟨b,o,J⟩) el.length ec):=(HB3.out.cell 20).trans aQ))
    go_ret;exact⟨by rw[HE.out];rfl,hb⟩
  ·have HE:Hid (V=ag):=I (by rw[HD.out];simp[h1]);have h1':el.length<1:=O;go_enter Tryz.func89,MJ;go_wp2_with (first
    |(refine cZ 29 (.tmp 1) rfl (w.heap.size) rfl ai (HB).out bQ hgi ?_)
    |(go_at_call 134;refine(KB.out _ (H.out.step hb)).mono ?_;rintro e w3 ⟨rfl,hb3⟩;replace hb:=ay hb hb3;have HB3:=I (HB.out.step hb3);clear hb3;have g20:w3.cell? ⟨w.heap.size,20,J⟩=N (T eA el.length ec):=(HB3.out.cell 20).trans aQ))
   go_ret;exact⟨by rw[HE.out];rfl,hb⟩
end
namespace Cr
def bJ (V:Bool) (Y M P q:Int):Int:=if V then ax.bJ Y M P q else 1
def bg (V:Bool) (Y M P q:Int):Int:=if V then ax.pG Y M P q else 0
def sh (cl:List Acc) (ro:dZ) (c d b:Int):Int:=if decide (d<b)&&zt cl c then ro.dJ else c
def wO (V:Bool) (Y M P q:Int) (cl:List Acc) (c:Int):Int:=if bJ V Y M P q=0 then (if Ch.eO cl c then 0 else 8) else bJ V Y M P q
def Dg (V:Bool) (Y M P q:Int) (cl:List Acc) (ro:dZ) (c d:Int):Int:=if wO V Y M P q cl c=0 then sh cl ro c d (bg V Y M P q) else 0
end Cr
theorem ahm {cur:ByteArray} {cl:List Acc} {ro:dZ} {el:List aY} {nU:Bool} (h:Gr.gv cur cl ro el nU=ae):nU=ae:=by
 unfold Gr.gv at h;simp only[bR]at h;exact h.2.1
theorem aff {Y M P q:Int} (h:ax.ok Y M P=ae):ax.bJ Y M P q=0\/ax.bJ Y M P q=2:=by
 unfold ax.bJ;rw[bB h]
 split
 ·exact .inl rfl
 ·exact .inr rfl
theorem aeL {Y M P q:Int} (h:ax.bJ Y M P q≠0):ax.pG Y M P q=0:=by
 unfold ax.pG;rw[bE h]
def Two (a b:Int) (w:Z) (e:eG) (w':Z):Prop:=e= .returned (bG #[G F a,G F b])/\Below w.heap.size w w'
def ad1 (a:Int) (w:Z) (e:eG) (w':Z):Prop:=e= .returned (G F a)/\Below w.heap.size w w'
section
variable (aB:Array aj) (cur:ByteArray) (y m p:Int) (cl:List Acc) (cA:Option aG) (cc:Nat) (ro:dZ) (el:List aY) (eA:Option aG) (ec:Nat) (w:Z)
theorem ae3 (q:Int) (HG:Hid (aB= #[av cur,G F y,G F m,G F p,T cA cl.length cc,G F ro.dU,G F ro.dR,G F ro.dO,G F ro.inventory,G F ro.reserve,G F ro.dV,G F ro.dJ,G F ro.acquired,G F ro.dX,G F ro.dP,G F ro.dN,G F ro.dQ,G F ro.dW,G F ro.difference,G F ro.dL,T eA el.length ec])) (h:eB w cl cA el eA) (hF:lY cur cl el):
 aF ak 118 #[az aB,G F q] w (Two (Cr.bg (Gr.gv cur cl ro el (ax.ok y m p)) y m p q) (Cr.bJ (Gr.gv cur cl ro el (ax.ok y m p)) y m p q) w):=by
 have H:=I h;have hgi:(ak.info? 29).map (·.size)=N aB.size:=by rw[HG.out];exact gy
 have hb:Below w.heap.size w (w.alloc (U aB 29)):=(aD _ _).alloc (aC _) _;have HB:=I (au.new w 29 aB);have K1:=I (λW h=>Ol aB cur y m p cl cA cc ro el eA ec W HG h hF);have HC:=I (ahm (cur:=cur) (cl:=cl) (ro:=ro) (el:=el) (nU:=ax.ok y m p));clear h hF;generalize Gr.gv cur cl ro el (ax.ok y m p)=V at*
 cases V
 ·go_enter Tryz.func118,Tryz.ntmps118;go_wp2_with (first
   |(refine cZ 29 (.tmp 2) rfl (w.heap.size) rfl ai (HB).out bQ hgi ?_)
   |(go_at_call 76;refine(K1.out _ (H.out.step hb)).mono ?_;rintro e w2 ⟨rfl,ah⟩;replace hb:=ay hb ah;clear ah))
  go_ret2;exact⟨rfl,hb⟩
 ·have HT:=I (aff (q:=q) (HC.out rfl));have HZ:=I (aeL (Y:=y) (M:=m) (P:=p) (q:=q));have KB:=I (λW=>Ya y m p q W);have HD1:Hid (Cr.bg ae y m p q=ax.pG y m p q):=I rfl;have HD2:Hid (Cr.bJ ae y m p q=ax.bJ y m p q):=I rfl;generalize ax.pG y m p q=v at*;generalize ax.bJ y m p q=x at*;generalize Cr.bg ae y m p q=bg at*;generalize Cr.bJ ae y m p q=ck at*
  cases hx:(x !=0)
  ·have HX:Hid (x=0):=I (by simpa using hx);go_enter Tryz.func118,Tryz.ntmps118;go_wp2_with (first
    |(refine cZ 29 (.tmp 2) rfl (w.heap.size) rfl ai (HB).out bQ hgi ?_)
    |(go_at_call 76;refine(K1.out _ (H.out.step hb)).mono ?_;rintro e w2 ⟨rfl,ah⟩;replace hb:=ay hb ah;have HB2:=I (HB.out.step ah);clear ah;have g1:w2.cell? ⟨w.heap.size,1,J⟩=N (G F y):=(HB2.out.cell 1).trans aQ;have g2:w2.cell? ⟨w.heap.size,2,J⟩=N (G F m):=(HB2.out.cell 2).trans aQ;have g3:w2.cell? ⟨w.heap.size,3,J⟩=N (G F p):=(HB2.out.cell 3).trans aQ)
    |(go_at_call 78;refine(KB.out _).mono ?_;rintro e w3 ⟨rfl,ah⟩;replace hb:=ay hb ah;clear ah))
   go_ret2;exact⟨by rw[HD1.out,HD2.out,HX.out];rfl,hb⟩
  ·have HX:Hid (x≠0):=I (by simpa using hx);go_enter Tryz.func118,Tryz.ntmps118;go_wp2_with (first
    |(refine cZ 29 (.tmp 2) rfl (w.heap.size) rfl ai (HB).out bQ hgi ?_)
    |(go_at_call 76;refine(K1.out _ (H.out.step hb)).mono ?_;rintro e w2 ⟨rfl,ah⟩;replace hb:=ay hb ah;have HB2:=I (HB.out.step ah);clear ah;have g1:w2.cell? ⟨w.heap.size,1,J⟩=N (G F y):=(HB2.out.cell 1).trans aQ;have g2:w2.cell? ⟨w.heap.size,2,J⟩=N (G F m):=(HB2.out.cell 2).trans aQ;have g3:w2.cell? ⟨w.heap.size,3,J⟩=N (G F p):=(HB2.out.cell 3).trans aQ)
    |(go_at_call 78;refine(KB.out _).mono ?_;rintro e w3 ⟨rfl,ah⟩;replace hb:=ay hb ah;clear ah))
   go_ret2;exact⟨by rw[HD1.out,HD2.out,HZ.out HX.out,HT.out.resolve_left HX.out];rfl,hb⟩
theorem anV (c d b:Int) (HG:Hid (aB= #[av cur,G F y,G F m,G F p,T cA cl.length cc,G F ro.dU,G F ro.dR,G F ro.dO,G F ro.inventory,G F ro.reserve,G F ro.dV,G F ro.dJ,G F ro.acquired,G F ro.dX,G F ro.dP,G F ro.dN,G F ro.dQ,G F ro.dW,G F ro.difference,G F ro.dL,T eA el.length ec])) (h:eB w cl cA el eA) (hn:cl.length<=300000):
 aF ak 120 #[az aB,G F c,G F d,G F b] w (ad1 (Cr.sh cl ro c d b) w):=by
 have H:=I h;have hgi:(ak.info? 29).map (·.size)=N aB.size:=by rw[HG.out];exact gy
 have hb:Below w.heap.size w (w.alloc (U aB 29)):=(aD _ _).alloc (aC _) _;have HB:=I (au.new w 29 aB);have K1:=I (λW h=>amN aB cur y m p cl cA cc ro el eA ec W c HG h hn);clear h;have HD:Hid (Cr.sh cl ro c d b=if decide (d<b)&&zt cl c then ro.dJ else c):=I rfl;generalize Cr.sh cl ro c d b=s at*;generalize zt cl c=rb at*
 by_cases h0:d<b
 ·cases rb
  ·have HE:Hid (s=c):=I (by rw[HD.out];simp);go_enter Tryz.func120,Tryz.ntmps120;go_wp2_with (first
    |(refine cZ 29 (.tmp 4) rfl (w.heap.size) rfl ai (HB).out bQ hgi ?_)
    |(go_at_call 165;refine(K1.out _ (H.out.step hb)).mono ?_;rintro e w2 ⟨rfl,ah⟩;replace hb:=ay hb ah;clear ah))
   go_ret;exact⟨by rw[HE.out];rfl,hb⟩
  ·have HE:Hid (s=ro.dJ):=I (by rw[HD.out];simp[h0]);go_enter Tryz.func120,Tryz.ntmps120;go_wp2_with (first
    |(refine cZ 29 (.tmp 4) rfl (w.heap.size) rfl ai (HB).out bQ hgi ?_)
    |(go_at_call 165;refine(K1.out _ (H.out.step hb)).mono ?_;rintro e w2 ⟨rfl,ah⟩;replace hb:=ay hb ah;have HB2:=I (HB.out.step ah);clear ah;have g11:w2.cell? ⟨w.heap.size,11,J⟩=N (G F ro.dJ):=(HB2.out.cell 11).trans aQ))
   go_ret;exact⟨by rw[HE.out];rfl,hb⟩
 ·have HE:Hid (s=c):=I (by rw[HD.out];simp[h0]);have h0':decide (d<b)=ag:=by simpa using h0
  go_enter Tryz.func120,Tryz.ntmps120;go_wp2_with fail;go_ret;exact⟨by rw[HE.out];rfl,hb⟩
end
namespace It
def Uv (c d:Int) (x:bV):Bool:=x.from_==c&&decide (x.since<=d)
def sK (L:List bV) (c d:Int):List bV:=L.filter (Uv c d)
def newer (o:Option bV) (x:bV):Option bV:=match o with
 |none=>N x
 |some y=>if y.since<x.since then N x else N y
def Fx (L:List bV) (c d:Int):Option Int:=((sK L c d).foldl newer J).map bV.to
structure Env where
 cur:ByteArray
 y:Int
 m:Int
 p:Int
 q:Int
 cl:List Acc
 ro:dZ
 rl:List aW
def Env.last (E:Env):Int:=ax.cB E.y E.m E.p E.q
def Env.per (E:Env) (d:Int):Int:=ax.mD E.y E.m E.p d
def Env.rate (E:Env) (c:ByteArray) (basis d:Int):Option Int:=
 if c=E.cur then N 1000000
 else if basis=1 then Rt.spot E.rl c E.last
 else if basis=2 then Rt.BU E.rl c (E.per d) (ax.gW E.y E.m E.p (E.per d)) (ax.cB E.y E.m E.p (E.per d))
 else Rt.spot E.rl c d
def Env.item (E:Env) (e:aY) (x:aI) (l:bq) (k:Int):Option bI:=
 (Fx e.links.l l.ek E.last).bind λm=>
 (E.rate e.cK (Ch.bU E.cl m).basis x.date).bind λv=>
 (Rt.conv l.amount v).bind λa=>
 if Cr.wO ae E.y E.m E.p E.q E.cl m=0 then N ⟨⟨x.id,k⟩,x.bF,Cr.Dg ae E.y E.m E.p E.q E.cl E.ro m x.date,l.partner,x.date,a⟩ else J
end It
theorem ahk {w w':Z} (h:iy w w'):w.grownBy w' J:=by
 obtain⟨n,os,rfl⟩:=h;exact⟨rfl,rfl,rfl,by rw[Sort.size_grow];exact Nat.le_add_right _ _,λi hi _=>by unfold aa9;simp only;rw[Qi (by exact hi)];rfl⟩
section
variable (w:Z)
theorem akd (x y:bV):aF ak 158 #[az #[G F x.from_,G F x.to,G F x.since],az #[G F y.from_,G F y.to,G F y.since]] w
 (λe w'=>e= .returned (G F (fO x.since y.since))/\ ∃ q os',w'=aa9 (w.drewN q) os'):=by
 obtain⟨x0,x1,x2⟩:=x;obtain⟨y0,y1,y2⟩:=y;dsimp only;have HG:Hid (iy w ((w.alloc (U #[G F x0,G F x1,G F x2] 250)).alloc (U #[G F y0,G F y1,G F y2] 250))):=I (((iy.refl w).alloc _).alloc _);unfold fO
 cases h1:decide (x2<y2)
 ·cases h2:decide (y2<x2)
  ·have e:Hid ((if x2<y2 then (-1:Int) else if y2<x2 then 1 else 0)=0):=I (by rw[bE (j3 h1),bE (j3 h2)]);generalize (if x2<y2 then (-1:Int) else if y2<x2 then 1 else 0)=R at*;go_enter Tryz.func158,Tryz.ntmps158;go_wp2_with fail;go_ret;exact⟨jg e.out.symm,HG.out⟩
  ·have e:Hid ((if x2<y2 then (-1:Int) else if y2<x2 then 1 else 0)=1):=I (by rw[bE (j3 h1),bB (iY h2)]);generalize (if x2<y2 then (-1:Int) else if y2<x2 then 1 else 0)=R at*;go_enter Tryz.func158,Tryz.ntmps158;go_wp2_with fail;go_ret;exact⟨jg e.out.symm,HG.out⟩
 ·have e:Hid ((if x2<y2 then (-1:Int) else if y2<x2 then 1 else 0)= -1):=I (by rw[bB (iY h1)]);generalize (if x2<y2 then (-1:Int) else if y2<x2 then 1 else 0)=R at*;go_enter Tryz.func158,Tryz.ntmps158;go_wp2_with fail;go_ret;exact⟨jg e.out.symm,HG.out⟩
theorem akl (l:List bV) (k:Nat) (hk:k<l.length) (m:bV) (h:(l.take k).foldl It.newer J=N m):(l.take (k+1)).foldl It.newer J=N (if m.since<l[k].since then l[k] else m):=by
 rw[gY hk,Vv,h];simp only[Mr,List.foldl_nil,It.newer]
 split<;>rfl
def XE (l:List bV) (w:Z) (e:eG) (w':Z):Prop:= ∃ m:bV,l.foldl It.newer J=N m/\e= .returned (az #[G F m.from_,G F m.to,G F m.since])/\Below w.heap.size w w'
theorem akm (l:List bV) (A:Option aG) (c:Nat) (hr:Rd w w.heap.size 3 A l.length (cellsOf bV.cells l)) (hl:1<=l.length) (hn:l.length<=100000):
 aF ak 157 #[T A l.length c,.func (.func 158) #[] #[]] w (XE l w):=by
 have HR:=I hr;obtain⟨b,o,hA,aX,f0,f1,f2⟩:=bV.at_ hr (k:=0) O;subst hA;have Wz:Hid ((l.take 1).foldl It.newer J=N l[0]):=I (by
  obtain⟨x,t,rfl⟩:=List.exists_cons_of_length_pos (l:=l) O
  rfl)
 generalize l[0]=x at*;obtain⟨x0,x1,x2⟩:=x;dsimp only at*;rw[Md,Ib]at f0 f1 f2;have hb1:Below w.heap.size w (w.alloc (U #[G F 0,G F 0,G F 0] 250)):=(aD _ _).alloc (aC _) _;clear hr;have hl1: ¬ ((l.length:Int)<1):=O;have hl2:decide (l.length<1)=ag:=iw O;unfold XE;go_enter Tryz.func157,Tryz.ntmps157;go_upto_region 4 with fail
 have HZ0:=I ((au.new w 250 #[G F 0,G F 0,G F 0]).alloc (U #[G F x0,G F x1,G F x2] 250));have HX0:=I (eT w (U #[G F 0,G F 0,G F 0] 250) 250 #[G F x0,G F x1,G F x2]);have hb2:=hb1.alloc hb1.size (U #[G F x0,G F x1,G F x2] 250);generalize (w.alloc (U #[G F 0,G F 0,G F 0] 250)).alloc (U #[G F x0,G F x1,G F x2] 250)=W at*;have hmx:(ak).follows .mixedOrders=ae:=ai;clear f0 f1 f2 hb1 hl1 hl2;go_wp2_with fail;go_loopw [6] (λt wr=> ∃ (k:Nat) (m:bV),1<=k/\k<=l.length/\t= G F k/\(l.take k).foldl It.newer J=N m/\au wr w.heap.size 250 #[G F 0,G F 0,G F 0]/\au wr (w.heap.size+1) 250 #[G F m.from_,G F m.to,G F m.since]/\Below w.heap.size w wr) (λt _=>l.length - (intOf t).toNat)
 case atStart=>exact⟨1,⟨x0,x1,x2⟩,O,hl,rfl,Wz.out,HZ0.out,HX0.out,hb2⟩
 case round=>
  clear Wz HZ0 HX0 hb2;obtain⟨k,m,hk1,hk,rfl,hm,hZ,hX,hb⟩:=hrel;have HM:=I hm;have HZ:=I hZ;have HX:=I hX;have hz:=hb.size;have hxl:=hX.lt;clear hm hZ hX
  by_cases hlt:k<l.length
  ·obtain⟨b2,o2,hA,qR,f0,f1,f2⟩:=bV.at_ (Rd.now HR.out hb) hlt;have e1:b=b2/\o=o2:=by injection hA with hA;injection hA with h1 h2;exact⟨h1,h2⟩
   obtain⟨rfl,rfl⟩:=e1;clear hA;have I9:=I (akl l k hlt m HM.out);generalize l[k]=y at*;obtain⟨y0,y1,y2⟩:=y;obtain⟨m0,m1,m2⟩:=m;dsimp only at*;have g0: ∀ n os,(aa9 (wr.drewN n) os).cell? ⟨b,o+k*3,J⟩=N (G F y0):=λn os=>cell_grown qR f0 n os
   have g1: ∀ n os,(aa9 (wr.drewN n) os).cell? ⟨b,o+k*3+1,J⟩=N (G F y1):=λn os=>cell_grown qR f1 n os
   have g2: ∀ n os,(aa9 (wr.drewN n) os).cell? ⟨b,o+k*3+2,J⟩=N (G F y2):=λn os=>cell_grown qR f2 n os
   have p0: ∀ n os,(aa9 (wr.drewN n) os).cell? ⟨w.heap.size+1,0,J⟩=N (G F m0):=λn os=>cell_grown hxl (HX.out.cell 0) n os
   have p1: ∀ n os,(aa9 (wr.drewN n) os).cell? ⟨w.heap.size+1,1,J⟩=N (G F m1):=λn os=>cell_grown hxl (HX.out.cell 1) n os
   have p2: ∀ n os,(aa9 (wr.drewN n) os).cell? ⟨w.heap.size+1,2,J⟩=N (G F m2):=λn os=>cell_grown hxl (HX.out.cell 2) n os
   have hc:=λW=>akd W ⟨y0,y1,y2⟩ ⟨m0,m1,m2⟩
   dsimp only at hc;obtain⟨cv,ZA⟩: ∃ cv,Hid (cv=fO y2 m2):=⟨_,I rfl⟩;rw[<- ZA.out]at hc;have hcv:Hid (0<cv↔m2<y2):=I (by rw[ZA.out];unfold fO;split<;>(try split)<;>omega);go_wp2_with fail;go_quiet_grown (first|(go_at_call 158;refine Calls.grown_of (hc _)));have hG:iy wr (aa9 (wr.drewN nq) osq):=⟨nq,osq,rfl⟩;have rP:=I (hG.keeps HZ.out);have gN:=I (hG.keeps HX.out);have hb5:Below w.heap.size w (aa9 (wr.drewN nq) osq):=hb.grown (ahk hG) hb.size aL;replace g0:=g0 nq osq;replace g1:=g1 nq osq;replace g2:=g2 nq osq;clear p0 p1 p2 hc f0 f1 f2 HZ HX hb hG;generalize aa9 (wr.drewN nq) osq=w5 at*
   cases hd:decide (0<cv)
   case true=>
    have rJ:Hid ((l.take (k+1)).foldl It.newer J=N ⟨y0,y1,y2⟩):=I (by rw[I9.out,bB (hcv.out.1 (iY hd))]);have t0:=gN.out.cell 0;have t1:=gN.out.cell 1;have t2:=gN.out.cell 2;go_wp2_with (refine oQ rfl 250 (.tmp 5) (.tmp 31) rfl (w.heap.size+1) #[G F y0,G F y1,G F y2] rfl rfl 250 #[G F m0,G F m1,G F m2] gN.out ai rfl ai ?_);go_roundw
    case rel=>exact⟨k+1,⟨y0,y1,y2⟩,O,O,by go_num,rJ.out,NS rP.out O _,mQ gN.out _,oJ hb5 O⟩
    case measure=>simp[intOf];omega
   case false=>
    have rJ:Hid ((l.take (k+1)).foldl It.newer J=N ⟨m0,m1,m2⟩):=I (by rw[I9.out,bE (λh=>j3 hd (hcv.out.2 h))]);go_wp2_with fail;go_roundw
    case rel=>exact⟨k+1,⟨m0,m1,m2⟩,O,O,by go_num,rJ.out,rP.out,gN.out,hb5⟩
    case measure=>simp[intOf];omega
  ·have hke:l.take k=l:=kS O;obtain⟨m0,m1,m2⟩:=m;dsimp only at*;have uC:=HM.out;rw[hke]at uC;have vQ:=I uC;clear uC hke;have p0:wr.cell? ⟨w.heap.size+1,0,J⟩=N (G F m0):=HX.out.cell 0;have p1:wr.cell? ⟨w.heap.size+1,1,J⟩=N (G F m1):=HX.out.cell 1;have p2:wr.cell? ⟨w.heap.size+1,2,J⟩=N (G F m2):=HX.out.cell 2;go_wp2_with (refine oQ rfl 250 (.tmp 4) (.tmp 32) rfl w.heap.size #[G F m0,G F m1,G F m2] rfl rfl 250 #[G F 0,G F 0,G F 0] HZ.out ai rfl ai ?_);refine iq (v:= az #[G F m0,G F m1,G F m2]) (FL Tryz.results157 _ _ w.heap.size 250 #[G F m0,G F m1,G F m2] (0,0) _ rfl (mQ HZ.out _) Mj rfl ai) rfl ?_;exact⟨⟨m0,m1,m2⟩,vQ.out,rfl,oJ hb (aC _)⟩
end
theorem aj2 (L:List bV) (c d:Int) (k:Nat) (hk:k<L.length):It.sK (L.take (k+1)) c d=if It.Uv c d L[k] then It.sK (L.take k) c d++ [L[k]] else It.sK (L.take k) c d:=by
 unfold It.sK;rw[gY hk,zH]
 split
 ·rename_i h;simp[h]
 ·rename_i h;simp[h]
theorem aj0 (a b c:Int) (W:Z):(Instr.field 250 (az #[G F a,G F b,G F c]) 1).run ak W= .ok (G F b) W:=ai
section
variable (w:Z)
theorem ake (n cu:ByteArray) (ch:Sl Acc) (lk:Sl bV) (jt:Bool) (c d:Int) (hd:Gr.eZ d=ae) (hch:Rd w w.heap.size 4 ch.A ch.l.length (Ch.cells ch.l)) (hcl:ch.l.length<=300000) (hlk:Rd w w.heap.size 3 lk.A lk.l.length (cellsOf bV.cells lk.l)) (hll:lk.l.length<=100000) (hf:Ch.eO ch.l c=ae):
 aF ak 113 #[az #[av n,av cu,T ch.A ch.l.length ch.cap,T lk.A lk.l.length lk.cap,aA jt],G F c,G F d] w (DI (It.Fx lk.l c d) w):=by
 obtain⟨cl,cA,cc⟩:=ch;obtain⟨ll,lA,lc⟩:=lk;dsimp only at*;have HC:=I hch;have HL:=I hlk;have KD:Hid (∀ W:Z,aF ak 84 #[G F d] W λe w'=>e= bM (aA ae)/\W=w'):=I (λW=>by have:=Cm d W;rwa [hd]at this);have KF:=I (λW h=>JU cl c cA cc W h hcl);have hb1:Below w.heap.size w (w.alloc (U #[av n,av cu,T cA cl.length cc,T lA ll.length lc,aA jt] 179)):=(aD _ _).alloc (aC _) _;have HB:=I (au.new w 179 #[av n,av cu,T cA cl.length cc,T lA ll.length lc,aA jt]);obtain⟨i0,hi,hz0,hz1,hz2⟩:=jh bV.info;clear hch hlk;unfold DI;go_enter Tryz.func113,Tryz.ntmps113;go_upto_region 3 with (go_at_call 84;refine(KD.out _).mono ?_;rintro en w3 ⟨rfl,rfl⟩)
 generalize w.alloc (U #[av n,av cu,T cA cl.length cc,T lA ll.length lc,aA jt] 179)=W at*;have k2:W.cell? ⟨w.heap.size,2,J⟩=N (T cA cl.length cc):=HB.out.cell 2;go_upto_region 6 with (go_at_call 114;refine(KF.out _ (Rd.now HC.out hb1)).mono ?_;rintro e w4 ⟨rfl,ah⟩;rw[hf];unfold Ch.val;have hb4:=ay hb1 ah;have jS:=I (HB.out.step ah);clear ah)
 generalize Ch.bU cl c=fa at*;obtain⟨a0,a1,a2,a3⟩:=fa;have hst:=hb4.alloc hb4.size (U #[G F a0,G F a1,G F a2,G F a3] 212);have gB:=I (jS.out.alloc (U #[G F a0,G F a1,G F a2,G F a3] 212));dsimp only;generalize w4.alloc (U #[G F a0,G F a1,G F a2,G F a3] 212)=w5 at*;clear hb1 hb4 HB jS k2;have k3:w5.cell? ⟨w.heap.size,3,J⟩=N (T lA ll.length lc):=gB.out.cell 3;go_wp2_with fail;clear k3;go_loopw [10,28] (λv t wr=> ∃ k:Nat,k<=ll.length/\t= G F k/\wr.ownsRow w.heap.size 250 3 v (It.sK (ll.take k) c d).length (cellsOf bV.cells (It.sK (ll.take k) c d))/\Below w.heap.size w wr) (λ_ t _=>ll.length - (intOf t).toNat)
 case atStart=>exact⟨0,O,rfl,jZ _ _ _ _,hst⟩
 case round=>
  clear hst;obtain⟨k,hk,rfl,ho,hb⟩:=hrel;have HO:=I ho;have hz:=hb.size;clear ho;have hln:(It.sK (ll.take k) c d).length<=k:=by
   unfold It.sK;refine iT (FM _ _) ?_;rw[jR];omega
  by_cases hlt:k<ll.length
  ·obtain⟨b,o,hA,aX,f0,f1,f2⟩:=bV.at_ (Rd.now HL.out hb) hlt;subst hA;have zU:=I (aj2 ll c d k hlt);generalize ll[k]=x at*;obtain⟨x0,x1,x2⟩:=x;generalize It.sK (ll.take k) c d=S at*;have QI:Hid (It.Uv c d ⟨x0,x1,x2⟩=((x0==c)&&decide (x2<=d))):=I rfl;have hst:=(aD wr.heap.size wr).alloc (aC _) (U #[G F x0,G F x1,G F x2] 250);have gm:=I (dF HO.out hst);have hb1:=ay hb hst;dsimp only at*
   cases c1:(x0==c)
   case false=>
    have HN:Hid (It.sK (ll.take (k+1)) c d=S):=I (by rw[zU.out,QI.out,c1];rfl);clear hst HO;go_wp2_with fail;go_roundw
    case rel=>exact⟨k+1,O,by go_num,by rw[HN.out];exact gm.out,hb1⟩
    case measure=>simp[intOf];omega
   cases c2:decide (x2<=d)
   case false=>
    have HN:Hid (It.sK (ll.take (k+1)) c d=S):=I (by rw[zU.out,QI.out,c1,c2];rfl);clear hst HO;go_wp2_with fail;go_roundw
    case rel=>exact⟨k+1,O,by go_num,by rw[HN.out];exact gm.out,hb1⟩
    case measure=>simp[intOf];omega
   have HN:Hid (It.sK (ll.take (k+1)) c d=S++ [⟨x0,x1,x2⟩]):=I (by rw[zU.out,QI.out,c1,c2];rfl);have gU:=hst.alloc hst.size (U #[G F x0,G F x1,G F x2] 250);have gJ:=I (dF HO.out gU);have hb2:=ay hb gU;clear hst HO gm hb1;go_wp2_with (at_builtin;refine yw bV.cells 3 bV.len bV.one rfl (.tmp 42) (.tmp 44) 177 rfl w.heap.size 250 i0 (az #[G F 0,G F 0,G F 0]) 24 PV hi hz0 hz1 hz2 rfl aJ _ S rfl gJ.out (wr.heap.size+1) 1 ⟨x0,x1,x2⟩ #[G F x0,G F x1,G F x2] rfl (by have:=au.new (wr.alloc (U #[G F x0,G F x1,G F x2] 250)) 250 #[G F x0,G F x1,G F x2];simpa using this) rfl fQ O bL ?_);intro v7 w7 eQ eU;have fu:Below w.heap.size w w7:=iI hb2 hb2.size gJ.out eU;have ny:=I eQ;clear eU eQ;go_wp2_with fail;go_roundw
   case rel=>exact⟨k+1,O,by go_num,by rw[HN.out,fK,ow];exact ny.out,fu⟩
   case measure=>simp[intOf];omega
  ·have hke:ll.take k=ll:=kS O;have Xa:Hid (It.Fx ll c d=((It.sK ll c d).foldl It.newer J).map bV.to):=I rfl;rw[hke]at HO hln;clear hke;generalize It.sK ll c d=S at*;obtain⟨A,c3,hv,hr⟩:=Rd.dE HO.out;subst hv;have Nn:=I hr;clear hr
   by_cases h0:S= []
   ·subst h0;go_wp2_with fail;go_ret2;exact⟨.inr ⟨Xa.out,0,15,aJ,rfl⟩,hb⟩
   ·have hl1:1<=S.length:=by cases S with|nil=>exact absurd rfl h0|cons _ _=>simp
    have hne:((S.length:Int)==0)=ag:=by simpa using h0
    have hfi:=aj0;have hne2:(S.length==0)=ag:=by simpa using h0
    have T9: ¬ S.length=0:=O;have KM:=I (akm wr S A c3 Nn.out hl1 O);go_wp2_with (go_at_call 157;refine KM.out.mono ?_;rintro e w9 ⟨m,hm,rfl,ah⟩);go_ret2;exact⟨.inl ⟨m.to,by rw[Xa.out,hm];rfl,rfl⟩,ay hb ah⟩
end
section
variable (aB:Array aj) (cur:ByteArray) (y m p:Int) (cl:List Acc) (cA:Option aG) (cc:Nat) (ro:dZ) (el:List aY) (eA:Option aG) (ec:Nat) (w:Z)
theorem afC (c d q:Int) (HG:Hid (aB= #[av cur,G F y,G F m,G F p,T cA cl.length cc,G F ro.dU,G F ro.dR,G F ro.dO,G F ro.inventory,G F ro.reserve,G F ro.dV,G F ro.dJ,G F ro.acquired,G F ro.dX,G F ro.dP,G F ro.dN,G F ro.dQ,G F ro.dW,G F ro.difference,G F ro.dL,T eA el.length ec])) (h:eB w cl cA el eA) (hF:lY cur cl el):
 aF ak 75 #[az aB,G F c,G F d,G F q] w (Two (Cr.Dg (Gr.gv cur cl ro el (ax.ok y m p)) y m p q cl ro c d) (Cr.wO (Gr.gv cur cl ro el (ax.ok y m p)) y m p q cl c) w):=by
 have hn:cl.length<=300000:=by have:=hF.ch;omega
 have H:=I h;have hgi:(ak.info? 29).map (·.size)=N aB.size:=by rw[HG.out];exact gy
 have hb:Below w.heap.size w (w.alloc (U aB 29)):=(aD _ _).alloc (aC _) _;have HB:=I (au.new w 29 aB);have K1:=I (λW h=>ae3 aB cur y m p cl cA cc ro el eA ec W q HG h hF);have K2:=I (λW h=>NM aB cur y m p cl cA cc ro el eA ec W c HG h hn);have DL:Hid (Cr.bJ (Gr.gv cur cl ro el (ax.ok y m p)) y m p q=0->Cr.bg (Gr.gv cur cl ro el (ax.ok y m p)) y m p q=ax.pG y m p q):=I (λh=>by
  unfold Cr.bJ at h;unfold Cr.bg
  cases hv:Gr.gv cur cl ro el (ax.ok y m p)<;>rw[hv]at h<;>simp_all)
 clear h hF;generalize Gr.gv cur cl ro el (ax.ok y m p)=V at*;have HV:Hid (Cr.Dg V y m p q cl ro c d=if Cr.wO V y m p q cl c=0 then Cr.sh cl ro c d (Cr.bg V y m p q) else 0):=I rfl;have HE:Hid (Cr.wO V y m p q cl c=if Cr.bJ V y m p q=0 then (if Ch.eO cl c then 0 else 8) else Cr.bJ V y m p q):=I rfl;generalize Cr.wO V y m p q cl c=pe at*;generalize Cr.Dg V y m p q cl ro c d=pv at*;generalize Cr.bJ V y m p q=ck at*;have K3:=I (λW h=>anV aB cur y m p cl cA cc ro el eA ec W c d (Cr.bg V y m p q) HG h hn);unfold MN at K2;generalize Cr.bg V y m p q=b at*;generalize Ch.bU cl c=a at*;generalize Ch.eO cl c=fb at*
 cases hx:(ck !=0)
 ·have hck:ck=0:=by simpa using hx
  have Qv:=I (DL.out hck);rw[hck,bB rfl]at HE;clear hck DL
  cases fb
  ·have HE2:Hid (pe=8):=I (by rw[HE.out];rfl);have kW:Hid (pv=0):=I (by rw[HV.out,HE2.out];rfl);go_enter Tryz.func75,Tryz.ntmps75;go_wp2_with (first
    |(refine cZ 29 (.tmp 4) rfl (w.heap.size) rfl ai (HB).out bQ hgi ?_)
    |(go_at_call 118;refine(K1.out _ (H.out.step hb)).mono ?_;rintro e w2 ⟨rfl,ah⟩;replace hb:=ay hb ah;have HB2:=I (HB.out.step ah);clear ah)
    |(refine cZ 29 (.tmp 4) rfl (w.heap.size) rfl ai (HB2).out bQ hgi ?_)
    |(go_at_call 119;refine(K2.out _ (H.out.step hb)).mono ?_;rintro e w3 ⟨rfl,ah⟩;have hb3:=(ay hb ah).alloc (ay hb ah).size (U #[G F a.code,G F a.kind,G F a.basis,G F a.parent] 212);have HB3:=I ((HB2.out.step ah).alloc (U #[G F a.code,G F a.kind,G F a.basis,G F a.parent] 212));clear ah))
   go_ret2;exact⟨by rw[HE2.out,kW.out];rfl,hb3⟩
  ·have HE2:Hid (pe=0):=I (by rw[HE.out];rfl);have kW:Hid (pv=Cr.sh cl ro c d b):=I (by rw[HV.out,HE2.out];rfl);go_enter Tryz.func75,Tryz.ntmps75;go_wp2_with (first
    |(refine cZ 29 (.tmp 4) rfl (w.heap.size) rfl ai (HB).out bQ hgi ?_)
    |(go_at_call 118;refine(K1.out _ (H.out.step hb)).mono ?_;rintro e w2 ⟨rfl,ah⟩;replace hb:=ay hb ah;have HB2:=I (HB.out.step ah);clear ah)
    |(refine cZ 29 (.tmp 4) rfl (w.heap.size) rfl ai (HB2).out bQ hgi ?_)
    |(go_at_call 119;refine(K2.out _ (H.out.step hb)).mono ?_;rintro e w3 ⟨rfl,ah⟩;have hb3:=(ay hb ah).alloc (ay hb ah).size (U #[G F a.code,G F a.kind,G F a.basis,G F a.parent] 212);have HB3:=I ((HB2.out.step ah).alloc (U #[G F a.code,G F a.kind,G F a.basis,G F a.parent] 212));clear ah)
    |(refine cZ 29 (.tmp 4) rfl (w.heap.size) rfl ai (HB3).out bQ hgi ?_)
    |(go_at_call 120;refine(K3.out _ (H.out.step hb3)).mono ?_;rintro e w4 ⟨rfl,ah⟩;have hb4:=ay hb3 ah;clear ah))
   go_ret2;exact⟨by rw[HE2.out,kW.out,Qv.out];rfl,hb4⟩
 ·have HE2:Hid (pe=ck):=I (by rw[HE.out,bE (by simpa using hx)]);have kW:Hid (pv=0):=I (by rw[HV.out,HE2.out,bE (by simpa using hx)]);go_enter Tryz.func75,Tryz.ntmps75;go_wp2_with (first
   |(refine cZ 29 (.tmp 4) rfl (w.heap.size) rfl ai (HB).out bQ hgi ?_)
   |(go_at_call 118;refine(K1.out _ (H.out.step hb)).mono ?_;rintro e w2 ⟨rfl,ah⟩;replace hb:=ay hb ah;clear ah))
  go_ret2;exact⟨by rw[HE2.out,kW.out];rfl,hb⟩
end
namespace El
def isRef (r:aO) (i:bI):Bool:=i.ref.entry==r.entry&&i.ref.line==r.line
theorem aaj {r:aO} {i:bI}:isRef r i=ae↔i.ref=r:=by
 obtain⟨⟨a,b⟩,_,_,_,_,_⟩:=i;obtain⟨c,d⟩:=r;simp[isRef]
def find (items:List bI) (r:aO):Option bI:=items.find? (isRef r)
def good (last acq:Int) (i:bI):Bool:=decide (i.date<=last)&&i.ek !=acq
def yg (items:List bI) (last acq:Int) (r:aO):Bool:=match find items r with
 |some i=>good last acq i
 |none=>ag
def pk (items:List bI) (r:aO):bI:=(find items r).getD default
def lQ:List bI->Int
 | []=>0
 |i::t=>i.amount+lQ t
theorem acb (a b:List bI):lQ (a++b)=lQ a+lQ b:=by
 induction a with
 |nil=>simp[lQ]
 |cons x a ih=>simp[lQ,ih];omega
theorem aox (l:List bI) (h: ∀ i∈l,-1000000000000<=i.amount/\i.amount<=1000000000000): -(1000000000000*(l.length:Int))<=lQ l/\lQ l<=1000000000000*(l.length:Int):=by
 induction l with
 |nil=>simp[lQ]
 |cons x l ih=>
  have h1:=ih λr hr=>h r (by simp[hr])
  have h2:=h x aL;simp only[lQ,gX];omega
theorem Od {items:List bI} {r:aO} {i:bI} (h:find items r=N i):i∈items/\i.ref=r:=by
 unfold find at h;exact⟨Mi h,aaj.1 (List.find?_some h)⟩
theorem aaY {items:List bI} {last acq:Int} {r:aO} (h:yg items last acq r=ae):find items r=N (pk items r)/\good last acq (pk items r)=ae:=by
 unfold yg at h;unfold pk
 split at h
 ·rename_i i hi;rw[hi];exact⟨rfl,h⟩
 ·cases h
def A8 (m:dz):List aO:=m.left.l++m.right.l
def hit (items:List bI) (fb:Bool) (last acq:Int) (m:dz):Bool:=fb&&(A8 m).all (yg items last acq)
def all (items:List bI) (fb:Bool) (last acq:Int) (ms:List dz):List (Int×List bI):=(ms.filter (hit items fb last acq)).map λm=>(m.id,(A8 m).map (pk items))
theorem aen (items:List bI) (fb:Bool) (last acq:Int) (ms:List dz) (k:Nat) (hk:k<ms.length):
 all items fb last acq (ms.take (k+1))=all items fb last acq (ms.take k)++if hit items fb last acq ms[k] then [(ms[k].id,(A8 ms[k]).map (pk items))] else []:=by
 unfold all;rw[gY hk,zH,mJ]
 congr 1
 cases h:hit items fb last acq ms[k]<;>simp[h]
theorem R5 (items:List bI) (fb:Bool) (last acq:Int) (ms:List dz):(all items fb last acq ms).length<=ms.length:=by
 unfold all;rw[pM];exact FM _ _
def vY (E:It.Env) (el:List aY) (es:List aI) (x:bI):Prop:=
 ∃ y∈es,∃ j:Nat,∃ hj:j<y.lines.l.length,E.item (el.getD y.bF.toNat default) y y.lines.l[j] (j:Int)=N x
def RX (E:It.Env) (el:List aY) (es:List aI) (o:bH):Prop:=
 ∃ y∈es,∃ j:Nat,∃ hj:j<y.lines.l.length,∃ i,E.item (el.getD y.bF.toNat default) y y.lines.l[j] (j:Int)=N i/\o.ref=⟨y.id,(j:Int)⟩/\o.amount=i.amount
theorem aak {E:It.Env} {e:aY} {y:aI} {l:bq} {k:Int} {i:bI} (h:E.item e y l k=N i):i.ref=⟨y.id,k⟩/\i.bF=y.bF/\i.date=y.date:=by
 unfold It.Env.item at h;simp only[VG]at h;obtain⟨m,_,v,_,a,_,h⟩:=h
 split at h
 ·obtain rfl:=uz h;exact⟨rfl,rfl,rfl⟩
 ·cases h
theorem YA {es:List aI} (hn:(es.map aI.id).Nodup) {a b:aI} (ha:a∈es) (hb:b∈es) (h:a.id=b.id):a=b:=by
 obtain⟨i,hi,rfl⟩:=iK.1 ha;obtain⟨k,hk,rfl⟩:=iK.1 hb;have:=(Ip (h₀:=by simpa using hi) (h₁:=by simpa using hk) hn).1 (by simpa using h);subst this
 rfl
theorem anO {E:It.Env} {el:List aY} {es:List aI} (hn:(es.map aI.id).Nodup) {x:bI} {o:bH} (hx:vY E el es x) (ho:RX E el es o) (h:x.ref=o.ref):x.amount=o.amount:=by
 obtain⟨y,hy,j,hj,e1⟩:=hx;obtain⟨y2,hy2,j2,hj2,i,e2,e3,e4⟩:=ho;have h1:=(aak e1).1;rw[h,e3]at h1;injection h1 with h1 h2
 obtain rfl:=YA hn hy2 hy h1;obtain rfl:j2=j:=O;rw[e2]at e1;obtain rfl:=uz e1;exact e4.symm
theorem aeq {L:List bH} {r:aO} (h: ∃ o∈L,o.ref=r): ∃ o∈L,o.ref=r/\Mt.yZ L r=o.amount:=by
 induction L with
 |nil=>obtain⟨o,ho,_⟩:=h;simp at ho
 |cons x L ih=>
  by_cases hx:x.ref.entry=r.entry/\x.ref.line=r.line
  ·refine⟨x,aL,?_,by simp[Mt.yZ,hx]⟩;obtain⟨⟨a,b⟩,_⟩:=x;obtain⟨c,d⟩:=r
   simpa using hx
  ·obtain⟨o,ho,e⟩:=h
   rcases fT.1 ho with rfl|ho
   ·exact absurd (by rw[e];exact⟨rfl,rfl⟩) hx
   ·obtain⟨o2,h1,h2,h3⟩:=ih ⟨o,ho,e⟩;exact⟨o2,by simp[h1],h2,by rw[Mt.yZ,bE hx,h3]⟩
theorem Va {E:It.Env} {el:List aY} {es:List aI} (hn:(es.map aI.id).Nodup) {items:List bI} {L:List bH} (hI: ∀ i∈items,vY E el es i) (hL: ∀ o∈L,RX E el es o) (last acq:Int):
 ∀ (S:List aO),(∀ r∈S,∃ o∈L,o.ref=r)->(∀ r∈S,yg items last acq r=ae)->lQ (S.map (pk items))=Mt.Bc L S
 | [],_,_=>rfl
 |r::S,h,ho=>by
  have ih:=Va hn hI hL last acq S (λr hr=>h r (by simp[hr])) (λr hr=>ho r (by simp[hr]));obtain⟨o,h1,h2,h3⟩:=aeq (h r aL);have h4:=aaY (ho r aL);have h5:=Od h4.1;simp only[vv,lQ,Mt.Bc];rw[ih,h3,anO hn (hI _ h5.1) (hL o h1) (by rw[h5.2,h2])]
end El
end Go.Proofs.YtbedbfdhfokifaaGreat
