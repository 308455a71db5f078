/- Part of the proof of WholeMatching. -/
import Derived.Test.YtbedbfdhfokifaaGreatJBB
import Derived.Test.YtbedbfdhfokifaaGreatJBC
namespace Go.Proofs.YtbedbfdhfokifaaGreat
set_option maxRecDepth 100000
set_option maxHeartbeats 16000000
set_option linter.unusedVariables false
set_option linter.unusedSimpArgs false
open _root_.And renaming intro->cz
open _root_.Bool renaming true->ae,false->ag
open Go renaming World->Z,Calls->aF,Addr->aG,undef->aV,Value->aj,maxLen->bK,Oper->dC,Program->dH,Ending->eG,Operand->lU,yielded->lh
open Go.IntKind renaming i64->F
open Go.Obj renaming cells->U
open Go.Proofs.Tryz renaming prog->ak
open Go.Region renaming wanted->lg
open Go.Value renaming int->G,slice->T,bool->aA,pointer->aN,string->av,agg->az,tuple->bG
open _root_.Option renaming none->J,some->N
open Go.RowKit
theorem aiV {Y M P:Int} (h:ax.ok Y M P=ae) (d:Int):Jn.GY Y M P d=Jn.dB Y M P d:=by
 rw[qm,Jn.aiW Y M P d h];unfold Jn.dB;simp
theorem aiU (y m p d:Int) (w:Z) (hp:1<=p) (hp2:p<=1000):aF ak 201 #[az #[G F y,G F m,G F p],G F d] w (fD (Jn.GY y m p d) w):=by
 have hb:Below w.heap.size w (w.alloc (U #[G F y,G F m,G F p] 23)):=(aD _ _).alloc (aC _) _;have HB:=I (au.new w 23 #[G F y,G F m,G F p]);have K1:=I (λW=>UQ y m p 0 W);have K2:=I (λW=>amw y m p (p - 1) W);have HD:Hid (Jn.GY y m p d=(decide (ax.gW y m p 0<=d)&&decide (d<=ax.cB y m p (p - 1)))):=I rfl;generalize Jn.GY y m p d=X at*;generalize ax.gW y m p 0=a at*;generalize ax.cB y m p (p - 1)=b at*;generalize ax.bJ y m p 0=e1 at*;generalize ax.bJ y m p (p - 1)=e2 at*;have hw:F.wrap (p - 1)=p - 1:=iL _ O;go_enter Tryz.func201,Tryz.ntmps201;go_upto_region 1 with fail
 generalize w.alloc (U #[G F y,G F m,G F p] 23)=W at*;have k0:W.cell? ⟨w.heap.size,0,J⟩=N (G F y):=HB.out.cell 0;have k1:W.cell? ⟨w.heap.size,1,J⟩=N (G F m):=HB.out.cell 1;have k2:W.cell? ⟨w.heap.size,2,J⟩=N (G F p):=HB.out.cell 2;go_upto_region 2 with (go_at_call 248;refine(K1.out _).mono ?_;rintro e w3 ⟨rfl,ah⟩;have hb3:=ay hb ah;have HB3:=I (HB.out.step ah);clear ah)
 have x0:w3.cell? ⟨w.heap.size,0,J⟩=N (G F y):=HB3.out.cell 0;have x1:w3.cell? ⟨w.heap.size,1,J⟩=N (G F m):=HB3.out.cell 1;have x2:w3.cell? ⟨w.heap.size,2,J⟩=N (G F p):=HB3.out.cell 2;clear k0 k1 k2
 by_cases h1:a<=d
 ·by_cases h2:d<=b
  ·have HE:Hid (X=ae):=I (by rw[HD.out];simp[h1,h2]);go_wp2_with (go_at_call 249;refine(K2.out _).mono ?_;rintro e w4 ⟨rfl,ah⟩;have hb4:=ay hb3 ah;clear ah);go_ret;exact⟨by rw[HE.out];rfl,hb4⟩
  ·have HE:Hid (X=ag):=I (by rw[HD.out];simp[h2]);go_wp2_with (go_at_call 249;refine(K2.out _).mono ?_;rintro e w4 ⟨rfl,ah⟩;have hb4:=ay hb3 ah;clear ah);go_ret;exact⟨gz (by rw[HE.out];first|rfl|(simp;omega)),hb4⟩
 ·have HE:Hid (X=ag):=I (by rw[HD.out];simp[h1]);go_wp2_with (go_at_call 249;refine(K2.out _).mono ?_;rintro e w4 ⟨rfl,ah⟩;have hb4:=ay hb3 ah;clear ah);go_ret;exact⟨by rw[HE.out];rfl,hb4⟩
section
variable (aB:Array aj) (cur:ByteArray) (y m p:Int) (cl:List Acc) (cA:Option aG) (cc:Nat) (ro:dZ) (el:List aY) (eA:Option aG) (ec:Nat) (w:Z) (id en da kd fo:Int) (tx:ByteArray) (ll:List bq) (lA:Option aG) (lc:Nat)
theorem amA (HG:Hid (aB= #[av cur,G F y,G F m,G F p,T cA cl.length cc,G F ro.dU,G F ro.dR,G F ro.dO,G F ro.inventory,G F ro.reserve,G F ro.dV,G F ro.dJ,G F ro.acquired,G F ro.dX,G F ro.dP,G F ro.dN,G F ro.dQ,G F ro.dW,G F ro.difference,G F ro.dL,T eA el.length ec])) (h:eB w cl cA el eA) (hF:lY cur cl el) (htx:tx.size<=bK) (hr:Rd w w.heap.size 3 lA ll.length (cellsOf bq.cells ll)) (hn:ll.length<=1000):
 aF ak 137 #[az aB,az #[G F id,G F en,G F da,G F kd,G F fo,av tx,T lA ll.length lc]] w (xM (Jn.bJ (Gr.gv cur cl ro el (ax.ok y m p)) el.length (Jn.kB el) (Jn.dB y m p) ⟨id,en,da,kd,fo,tx,⟨ll,lA,lc⟩⟩) w):=by
 have H:=I h;have HR:=I hr;have hgi:(ak.info? 29).map (·.size)=N aB.size:=by rw[HG.out];exact gy
 have KS:=I (λW h hr=>anT aB cur y m p cl cA cc ro el eA ec W id en da kd fo tx ll lA lc HG h hF htx hr hn);have M4:=I hF;have HX:Hid (Jn.bJ (Gr.gv cur cl ro el (ax.ok y m p)) el.length (Jn.kB el) (Jn.dB y m p) ⟨id,en,da,kd,fo,tx,⟨ll,lA,lc⟩⟩=if Jn.lJ (Gr.gv cur cl ro el (ax.ok y m p)) el.length ⟨id,en,da,kd,fo,tx,⟨ll,lA,lc⟩⟩ then (if ll.all (λl=>Jn.kB el en l.ek) then (if Jn.dB y m p da then (if Jn.nL ll=0 then 0 else 11) else 2) else 17) else 1):=I rfl;have dx:=I (λ(hh:Jn.lJ (Gr.gv cur cl ro el (ax.ok y m p)) el.length ⟨id,en,da,kd,fo,tx,⟨ll,lA,lc⟩⟩=ae)=>Jn.SE (V:=Gr.gv cur cl ro el (ax.ok y m p)) (n:=el.length) (x:=⟨id,en,da,kd,fo,tx,⟨ll,lA,lc⟩⟩) (by unfold Jn.nW;rw[hh];rfl));have vN:Hid (Gr.gv cur cl ro el (ax.ok y m p)=ae->ax.ok y m p=ae):=I (λhh=>by unfold Gr.gv at hh;simp only[bR]at hh;exact hh.2.1);clear h hr hF;have hb:Below w.heap.size w ((w.alloc (U aB 29)).alloc (U #[G F id,G F en,G F da,G F kd,G F fo,av tx,T lA ll.length lc] 107)):=((aD _ _).alloc (aC _) _).alloc aL _;have HB:=I ((au.new w 29 aB).alloc (U #[G F id,G F en,G F da,G F kd,G F fo,av tx,T lA ll.length lc] 107));have HP:=I (eT w (U aB 29) 107 #[G F id,G F en,G F da,G F kd,G F fo,av tx,T lA ll.length lc]);generalize Gr.gv cur cl ro el (ax.ok y m p)=V at*;generalize Jn.bJ V el.length (Jn.kB el) (Jn.dB y m p) ⟨id,en,da,kd,fo,tx,⟨ll,lA,lc⟩⟩=X at*;generalize hfm:Jn.lJ V el.length ⟨id,en,da,kd,fo,tx,⟨ll,lA,lc⟩⟩=fm at*;clear hfm;go_enter Tryz.func137,Tryz.ntmps137;go_upto_region 1 with fail
 generalize (w.alloc (U aB 29)).alloc (U #[G F id,G F en,G F da,G F kd,G F fo,av tx,T lA ll.length lc] 107)=W at*
 cases fm
 ·have HE:Hid (X=1):=I HX.out;go_wp2_with (first
   |(refine cZ 29 (.tmp 2) rfl (w.heap.size) rfl ai (HB).out bQ hgi ?_)
   |(refine cZ 107 (.tmp 3) rfl (w.heap.size+1) rfl ai HP.out mH xS ?_)
   |(go_at_call 199;refine(KS.out _ (H.out.step hb) (Rd.now HR.out hb)).mono ?_;rintro e w3 ⟨rfl,ah⟩;have hb3:=ay hb ah;clear ah))
  go_ret;exact⟨by rw[HE.out];rfl,hb3⟩
 ·have dn:Hid (X=if ll.all (λl=>Jn.kB el en l.ek) then (if Jn.dB y m p da then (if Jn.nL ll=0 then 0 else 11) else 2) else 17):=I HX.out;obtain⟨hh,hlb⟩:=dx.out rfl;have TE:=vN.out hh.v;have e0:=hh.e0;have e1:=hh.e1;dsimp only at e0 e1;have hlm: ∀ l∈ll,-1000000000000<=l.amount/\l.amount<=1000000000000:=λl hl=>by
   have:=hlb l hl;unfold Jn.jc at this;simp only[bR]at this;exact R6 this.1.2
  have Xz:=I (λW h=>ana ll lA lc W h hn hlm);have Uc:=((ax.Fb y m p).1 TE).2.2;have Gl:=I (λW=>aiU y m p da W Uc.1 (by have:=Uc.2.1;omega));rw[aiV TE da]at Gl;obtain⟨i,rfl⟩: ∃ i:Nat,en=i:=⟨en.toNat,O⟩;have hil:i<el.length:=O;clear hh hlb hlm TE Uc e0 e1 dx HX vN;go_upto_region 3 with (first
   |(refine cZ 29 (.tmp 2) rfl (w.heap.size) rfl ai (HB).out bQ hgi ?_)
   |(refine cZ 107 (.tmp 3) rfl (w.heap.size+1) rfl ai HP.out mH xS ?_)
   |(go_at_call 199;refine(KS.out _ (H.out.step hb) (Rd.now HR.out hb)).mono ?_;rintro e w3 ⟨rfl,ah⟩;have hb3:=ay hb ah;have HB3:=I (HB.out.step ah);have aP:=I (HP.out.step ah);clear ah))
  clear hb HB HP;have hch:=(M4.out.EE i hil).1;obtain⟨b1,o1,hA1,Tw,-,-,g2,-,-⟩:=aY.at_ H.out.en hil;have hok:=H.out.ok _ (bP hil);have tH:=I (λa=>Jn.Uq hil a);generalize el[i]=x at*;obtain⟨xn,xu,⟨l1,A1,c1⟩,⟨l2,A2,c2⟩,xj⟩:=x;dsimp only[Sl.val]at*;have hl1:Rd w w.heap.size 4 A1 l1.length (Ch.cells l1):=by have:=hok.2.2.1.1.1;rwa [BR]at this
  have rH:=I hl1;have HG2:=I g2;subst hA1;clear hok hl1 g2;go_wp2_with fail;go_loopw [5] (λt wr=> ∃ k:Nat,k<=ll.length/\(∀ j (h:j<k) (h2:j<ll.length),Jn.kB el i (ll[j]'h2).ek=ae)/\t= G F k/\au wr w.heap.size 29 aB/\au wr (w.heap.size+1) 107 #[G F id,G F (i:Int),G F da,G F kd,G F fo,av tx,T lA ll.length lc]/\Below w.heap.size w wr) (λt _=>ll.length - (intOf t).toNat)
  case atStart=>exact⟨0,O,λj h=>O,rfl,HB3.out,aP.out,hb3⟩
  case round=>
   clear hb3 HB3 aP;obtain⟨k,hk,hno,rfl,hB,hP,hb⟩:=hrel;have HN:=I hno;have dY:=I hB;have gD:=I hP;have hz:=hb.size;clear hno hB hP;have k6:wr.cell? ⟨w.heap.size+1,6,J⟩=N (T lA ll.length lc):=gD.out.cell 6
   by_cases hlt:k<ll.length
   ·obtain⟨b,o,hA,aX,f0,f1,f2⟩:=bq.at_ (Rd.now HR.out hb) hlt;subst hA;have HKK:=I (tH.out ll[k].ek);have HST:Hid (Jn.kB el i ll[k].ek=ae-> ∀ j (h:j<k+1) (h2:j<ll.length),Jn.kB el i (ll[j]'h2).ek=ae):=I (λhq j h h1=>by
     by_cases e:j=k
     ·subst e;exact hq
     ·exact HN.out j O h1)
    have eH:=I (λ(h:Jn.kB el i ll[k].ek=ag)=>Jn.Yg (K:=Jn.kB el) (x:=⟨id,i,da,kd,fo,tx,⟨ll,N ⟨b,o,J⟩,lc⟩⟩) (k:=k) hlt h);generalize ll[k]=u at*;obtain⟨la,lm,lp⟩:=u;dsimp only at f0 f1 f2 HKK HST eH;go_upto_region 6 with fail
    obtain⟨wo,rfl⟩: ∃ wo:Z,wo=wr:=⟨_,rfl⟩;have q0: ∀ d:Later wo,d.now.cell? ⟨w.heap.size,20,J⟩=N (T (N ⟨b1,o1,J⟩) el.length ec):=λd=>d.cell dY.out.lt ((dY.out.cell 20).trans aQ)
    have q1: ∀ d:Later wo,d.now.cell? ⟨w.heap.size+1,1,J⟩=N (G F (i:Int)):=λd=>d.cell gD.out.lt (gD.out.cell 1)
    have q2: ∀ d:Later wo,d.now.cell? ⟨b1,o1+i*5+2,J⟩=N (T A1 l1.length c1):=λd=>((ay hb d.below).cell (p:=⟨b1,o1+i*5+2,J⟩) Tw).trans HG2.out
    have q3: ∀ d:Later wo,d.now.cell? ⟨b,o+k*3,J⟩=N (G F la):=λd=>d.cell aX f0
    have q6: ∀ d:Later wo,d.now.cell? ⟨w.heap.size+1,6,J⟩=N (T (N ⟨b,o,J⟩) ll.length lc):=λd=>d.cell gD.out.lt (gD.out.cell 6)
    have K2:=I (λW h=>LG l1 la A1 c1 W h hch);unfold MS Ch.val at K2;rw[<- HKK.out]at K2;generalize Ch.bU l1 la=a at*;generalize Jn.kB el i la=fb at*;clear f0 f1 f2 k6;go_cut [6,7] (λs6 s7 wx=> ∃ g:Nat,s6= aN (N ⟨g,0,J⟩)/\s7= .bool fb/\au wx g 212 #[G F a.code,G F a.kind,G F a.basis,G F a.parent]/\Below wo.heap.size wo wx)
    case first=>
     refine AZ (n:=20) (wo) ai rfl ?_;have hC:=gH.drew (wo);have hT:=tg 0;(iterate 13 first|(refine aac hT hC ?_;clear hT;intro hT K hK;go_big_quiet_op;go_big_quiet_on)|(refine aaB hT hC ?_;clear hT;intro hT;simp only[Zx]));clear hT;refine UU (is:= [13,17]) ai aL ?_;intro j hj;simp only[fT,lV,lW]at hj
     rcases hj with rfl|rfl
     ·refine⟨_,rfl,rfl,?_⟩;intro K hK;go_simp;go_at_call 200;refine(K2.out _ (Rd.now rH.out (ay hb hC.below))).mono ?_;rintro e w5 ⟨rfl,hb5⟩
      (try go_wp2_with fail)
      replace hC:=hC.on hb5;refine hK _ _ hC (λ_=> ?_);clear hK K
      (try simp only[Zx])
      have hT:=tg 14;(iterate 3 first|(refine aac hT hC ?_;clear hT;intro hT K hK;go_big_quiet_op;go_big_quiet_on)|(refine aaB hT hC ?_;clear hT;intro hT;simp only[Zx]));clear hT;have nX:=hC.below;refine mW (i:=17) ai rfl rfl ?_;intro K hK;go_simp;have hC2:=hC.below;refine hK _ _ (gH.of (by repeat (first|exact hC2|refine Below.alloc ?_ (by have hbs:=hC2.size;first|omega|(simp;done)|(simp at hbs |-;omega)) _|refine Below.drew ?_|refine iC ?_ _))) ?_;clear hK K hC hC2;intro hC;(try simp only[Zx]);refine mW (i:=18) ai rfl rfl ?_;intro K hK;go_simp;refine hK _ _ (gH.of (nX.alloc nX.size _)) ?_;clear hK K hC;intro hC
      (try simp only[Zx])
      (first|(refine aqx 19 hC ?_;intro K hK;go_big_quiet_op;go_big_quiet_on)|(refine aqw 19 hC ?_;simp only[Zx]))
      refine wpAnyH_done ai ?_ _;go_wp2_with fail;go_meet;exact⟨w5.heap.size,rfl,rfl,au.new w5 _ _,nX.alloc nX.size _⟩
     ·refine⟨_,rfl,rfl,?_⟩;intro K hK;go_simp;have J6:Below (wo).heap.size (wo) ((wo).alloc (U #[G F 0,G F 0,G F 0,G F 0] 212)).drew:=((aD _ _).alloc (aC _) _).drew;have hX:=(au.new (wo) 212 #[G F 0,G F 0,G F 0,G F 0]).drew;refine hK _ _ (gH.of J6) (λhC=> ?_);clear hK K;generalize ((wo).alloc (U #[G F 0,G F 0,G F 0,G F 0] 212)).drew=w4 at*
      (try simp only[Zx])
      refine mW (i:=13) ai rfl rfl ?_;intro K hK;go_simp;go_at_call 200;refine(K2.out _ (Rd.now rH.out (ay hb hC.below))).mono ?_;rintro e w5 ⟨rfl,hb5⟩
      (try go_wp2_with fail)
      replace hC:=hC.on hb5;replace hX:=hX.step hb5;refine hK _ _ hC (λ_=> ?_);clear hK K
      (try simp only[Zx])
      have hT:=tg 14;(iterate 3 first|(refine aac hT hC ?_;clear hT;intro hT K hK;go_big_quiet_op;go_big_quiet_on)|(refine aaB hT hC ?_;clear hT;intro hT;simp only[Zx]));clear hT;refine mW (i:=18) ai rfl rfl ?_;intro K hK;have g0:w5.cell? ⟨(wo).heap.size,0,J⟩=N (G F 0):=hX.cell 0;have g1:w5.cell? ⟨(wo).heap.size,1,J⟩=N (G F 0):=hX.cell 1;have g2:w5.cell? ⟨(wo).heap.size,2,J⟩=N (G F 0):=hX.cell 2;have g3:w5.cell? ⟨(wo).heap.size,3,J⟩=N (G F 0):=hX.cell 3;have h0:w5.frozen? ⟨(wo).heap.size,0,J⟩=ag:=hX.frozen 0;have h1:w5.frozen? ⟨(wo).heap.size,1,J⟩=ag:=hX.frozen 1;have h2:w5.frozen? ⟨(wo).heap.size,2,J⟩=ag:=hX.frozen 2;have h3:w5.frozen? ⟨(wo).heap.size,3,J⟩=ag:=hX.frozen 3;go_simp;have hZ:Below (wo).heap.size (wo) ((((w5.setCell ⟨(wo).heap.size,0,J⟩ (G F a.code)).setCell ⟨(wo).heap.size,1,J⟩ (G F a.kind)).setCell ⟨(wo).heap.size,2,J⟩ (G F a.basis)).setCell ⟨(wo).heap.size,3,J⟩ (G F a.parent)):=
       (((hC.below.setCell aL _).setCell aL _).setCell aL _).setCell aL _
      have hY:=(((hX.bZ 0 (G F a.code)).bZ 1 (G F a.kind)).bZ 2 (G F a.basis)).bZ 3 (G F a.parent);refine hK _ _ (gH.of hZ) ?_;clear hC;intro hC;clear hK K g0 g1 g2 g3 h0 h1 h2 h3;generalize ((((w5.setCell ⟨(wo).heap.size,0,J⟩ (G F a.code)).setCell ⟨(wo).heap.size,1,J⟩ (G F a.kind)).setCell ⟨(wo).heap.size,2,J⟩ (G F a.basis)).setCell ⟨(wo).heap.size,3,J⟩ (G F a.parent))=w6 at*
      (try simp only[Zx])
      (first|(refine aqx 19 hC ?_;intro K hK;go_big_quiet_op;go_big_quiet_on)|(refine aqw 19 hC ?_;simp only[Zx]))
      refine wpAnyH_done ai ?_ _;go_wp2_with fail;go_meet;exact⟨(wo).heap.size,rfl,rfl,hY,hZ⟩
    case rest=>
     obtain⟨g,rfl,rfl,Au,ah⟩:=hcut;have hbx:=ay hb ah;have oW:=I (dY.out.step ah);have Ea:=I (gD.out.step ah);clear q0 q1 q2 q3 q6 Au
     cases fb
     ·have HE:Hid (X=17):=I (by
       have:=eH.out rfl;unfold Jn.wu at this;dsimp only at this;rw[dn.out]
       cases hal:ll.all (λl=>Jn.kB el (i:Int) l.ek)
       ·rfl
       ·rw[hal]at this;simp at this)
      go_wp2_with fail;go_ret;exact⟨by rw[HE.out];rfl,hbx⟩
     ·have HE:=I (HST.out rfl);go_wp2_with fail;go_roundw
      case rel=>exact⟨k+1,O,HE.out,by go_num,oW.out,Ea.out,hbx⟩
      case measure=>simp[intOf];omega
   ·have jO:Hid (X=if Jn.dB y m p da then (if Jn.nL ll=0 then 0 else 11) else 2):=I (by
     rw[dn.out,bB];rw[ng];intro l hl;obtain⟨j,hj,rfl⟩:=iK.1 hl;exact HN.out j O hj)
    have k2:wr.cell? ⟨w.heap.size+1,2,J⟩=N (G F da):=gD.out.cell 2;have g1:wr.cell? ⟨w.heap.size,1,J⟩=N (G F y):=(dY.out.cell 1).trans aQ;have g2:wr.cell? ⟨w.heap.size,2,J⟩=N (G F m):=(dY.out.cell 2).trans aQ;have g3:wr.cell? ⟨w.heap.size,3,J⟩=N (G F p):=(dY.out.cell 3).trans aQ
    cases CL:Jn.dB y m p da
    ·have HE:Hid (X=2):=I (by rw[jO.out,CL];rfl);rw[CL]at Gl;clear CL;go_wp2_with (go_at_call 201;refine(Gl.out _).mono ?_;rintro e w5 ⟨rfl,ah⟩;have hb5:=ay hb ah;clear ah);go_ret;exact⟨by rw[HE.out];rfl,hb5⟩
    ·have gL:Hid (X=if Jn.nL ll=0 then 0 else 11):=I (by rw[jO.out,CL];rfl);rw[CL]at Gl;clear CL;generalize Jn.nL ll=sm at*
     cases hx:(sm !=0)
     ·have h0:sm=0:=by simpa using hx
      have HE:Hid (X=0):=I (by rw[gL.out,bB h0]);clear h0;go_wp2_with (first
       |(go_at_call 201;refine(Gl.out _).mono ?_;rintro e w5 ⟨rfl,ah⟩;have hb5:=ay hb ah;have mP:=I (gD.out.step ah);clear ah;have x6:w5.cell? ⟨w.heap.size+1,6,J⟩=N (T lA ll.length lc):=mP.out.cell 6)
       |(go_at_call 202;refine(Xz.out _ (Rd.now HR.out hb5)).mono ?_;rintro e w6 ⟨rfl,ah⟩;have hb6:=ay hb5 ah;clear ah))
      go_ret;exact⟨by rw[HE.out];rfl,hb6⟩
     ·have h0:sm≠0:=by simpa using hx
      have HE:Hid (X=11):=I (by rw[gL.out,bE h0]);clear h0;go_wp2_with (first
       |(go_at_call 201;refine(Gl.out _).mono ?_;rintro e w5 ⟨rfl,ah⟩;have hb5:=ay hb ah;have mP:=I (gD.out.step ah);clear ah;have x6:w5.cell? ⟨w.heap.size+1,6,J⟩=N (T lA ll.length lc):=mP.out.cell 6)
       |(go_at_call 202;refine(Xz.out _ (Rd.now HR.out hb5)).mono ?_;rintro e w6 ⟨rfl,ah⟩;have hb6:=ay hb5 ah;clear ah))
      go_ret;exact⟨by rw[HE.out];rfl,hb6⟩
end
namespace Jn
theorem YP {es:List aI} {id:Int} (h:get es id=J):sD es id= -1:=by unfold sD;rw[h]
theorem YQ {es:List aI} {id:Int} {k:Nat} (h:get es id=N k):sD es id=k:=by unfold sD;rw[h]
end Jn
section
variable (aB:Array aj) (cur:ByteArray) (y m p:Int) (cl:List Acc) (cA:Option aG) (cc:Nat) (ro:dZ) (el:List aY) (eA:Option aG) (ec:Nat) (w:Z) (id en da kd fo:Int) (tx:ByteArray) (ll:List bq) (lA:Option aG) (lc:Nat)
theorem anm (es:List aI) (sA:Option aG) (sc:Nat) (HG:Hid (aB= #[av cur,G F y,G F m,G F p,T cA cl.length cc,G F ro.dU,G F ro.dR,G F ro.dO,G F ro.inventory,G F ro.reserve,G F ro.dV,G F ro.dJ,G F ro.acquired,G F ro.dX,G F ro.dP,G F ro.dN,G F ro.dQ,G F ro.dW,G F ro.difference,G F ro.dL,T eA el.length ec])) (h:eB w cl cA el eA) (hF:lY cur cl el) (hE:kL w es sA)
 (hes: ∀ y'∈es,Jn.bJ (Gr.gv cur cl ro el (ax.ok y m p)) el.length (Jn.kB el) (Jn.dB y m p) y'=0) (hln:es.length<=1000) (htx:tx.size<=bK) (hr:Rd w w.heap.size 3 lA ll.length (cellsOf bq.cells ll)) (hn:ll.length<=1000):
 aF ak 90 #[az aB,T sA es.length sc,az #[G F id,G F en,G F da,G F kd,G F fo,av tx,T lA ll.length lc]] w (xM (Jn.qi (Jn.bJ (Gr.gv cur cl ro el (ax.ok y m p)) el.length (Jn.kB el) (Jn.dB y m p)) es (⟨id,en,da,kd,fo,tx,⟨ll,lA,lc⟩⟩:aI)) w):=by
 have H:=I h;have HE:=I hE;have HR:=I hr;have hgi:(ak.info? 29).map (·.size)=N aB.size:=by rw[HG.out];exact gy
 have Ky: ∀ y'∈es,y'.lines.l.length<=40/\ ∀ l∈y'.lines.l,-1000000000000<=l.amount/\l.amount<=1000000000000:=λy' hy=>(Jn.Yj (hes y' hy)).2
 have IV:=I Ky;have KC:=I (λW h hr=>amA aB cur y m p cl cA cc ro el eA ec W id en da kd fo tx ll lA lc HG h hF htx hr hn);have HRP:=I (Jn.amX hes fo);have vR:=I (Jn.abe (C:=Jn.bJ (Gr.gv cur cl ro el (ax.ok y m p)) el.length (Jn.kB el) (Jn.dB y m p)) (es:=es) (x:=(⟨id,en,da,kd,fo,tx,⟨ll,lA,lc⟩⟩:aI)) O);generalize Jn.qi (Jn.bJ (Gr.gv cur cl ro el (ax.ok y m p)) el.length (Jn.kB el) (Jn.dB y m p)) es (⟨id,en,da,kd,fo,tx,⟨ll,lA,lc⟩⟩:aI)=X at*;generalize Jn.bJ (Gr.gv cur cl ro el (ax.ok y m p)) el.length (Jn.kB el) (Jn.dB y m p) (⟨id,en,da,kd,fo,tx,⟨ll,lA,lc⟩⟩:aI)=c0 at*;clear h hE hr hes Ky hF;have hb:Below w.heap.size w ((w.alloc (U aB 29)).alloc (U #[G F id,G F en,G F da,G F kd,G F fo,av tx,T lA ll.length lc] 107)):=((aD _ _).alloc (aC _) _).alloc aL _;have HB:=I ((au.new w 29 aB).alloc (U #[G F id,G F en,G F da,G F kd,G F fo,av tx,T lA ll.length lc] 107));have HP:=I (eT w (U aB 29) 107 #[G F id,G F en,G F da,G F kd,G F fo,av tx,T lA ll.length lc]);go_enter Tryz.func90,Tryz.ntmps90;go_upto_region 1 with fail
 generalize (w.alloc (U aB 29)).alloc (U #[G F id,G F en,G F da,G F kd,G F fo,av tx,T lA ll.length lc] 107)=W at*;go_upto_region 2 with (first
  |(refine cZ 29 (.tmp 3) rfl (w.heap.size) rfl ai (HB).out bQ hgi ?_)
  |(refine cZ 107 (.tmp 5) rfl (w.heap.size+1) rfl ai HP.out mH xS ?_)
  |(go_at_call 137;refine(KC.out _ (H.out.step hb) (Rd.now HR.out hb)).mono ?_;rintro e w3 ⟨rfl,ah⟩;have hb3:=ay hb ah;have aP:=I (HP.out.step ah);clear ah))
 clear hb HB HP;have k0:w3.cell? ⟨w.heap.size+1,0,J⟩=N (G F id):=aP.out.cell 0;have k1:w3.cell? ⟨w.heap.size+1,1,J⟩=N (G F en):=aP.out.cell 1;have k2:w3.cell? ⟨w.heap.size+1,2,J⟩=N (G F da):=aP.out.cell 2;have k3:w3.cell? ⟨w.heap.size+1,3,J⟩=N (G F kd):=aP.out.cell 3;have k4:w3.cell? ⟨w.heap.size+1,4,J⟩=N (G F fo):=aP.out.cell 4;have k6:w3.cell? ⟨w.heap.size+1,6,J⟩=N (T lA ll.length lc):=aP.out.cell 6;have hn2: ¬ (2000:Int)<=(es.length:Int):=O
 cases hc:(c0 !=0)
 ·have hc0:c0=0:=by simpa using hc
  have D9:Hid (X=if (Jn.get es id).isSome then 9 else if kd=3 then Jn.mX es (⟨id,en,da,kd,fo,tx,⟨ll,lA,lc⟩⟩:aI) else 0):=I (by rw[vR.out,bB hc0]);clear hc0;have KG:=I (λi=>abF es i sA sc w3 (HE.out.step hb3).rd hln)
  cases hget:Jn.get es id with
  |some k=>
   have HE9:Hid (X=9):=I (by rw[D9.out,hget];rfl);have M7:=I (Jn.YQ hget);clear hget;have hk0:(0:Int)<=(k:Int):=O;go_wp2_with (go_at_call 17;refine(KG.out id).mono ?_;rintro e w4 ⟨rfl,rfl⟩;rw[M7.out]);go_ret;exact⟨by rw[HE9.out];rfl,hb3⟩
  |none=>
   have Jf:Hid (X=if kd=3 then Jn.mX es (⟨id,en,da,kd,fo,tx,⟨ll,lA,lc⟩⟩:aI) else 0):=I (by rw[D9.out,hget];rfl);have M7:=I (Jn.YP hget);clear hget D9 vR
   cases h3:(kd==3)
   ·have h3':kd≠3:=by simpa using h3
    have HX0:Hid (X=0):=I (by rw[Jf.out,bE h3']);clear h3';go_wp2_with (go_at_call 17;refine(KG.out id).mono ?_;rintro e w4 ⟨rfl,rfl⟩;rw[M7.out]);go_ret;exact⟨by rw[HX0.out];rfl,hb3⟩
   ·have h3':kd=3:=by simpa using h3
    have Gb:Hid (X=Jn.mX es (⟨id,en,da,kd,fo,tx,⟨ll,lA,lc⟩⟩:aI)):=I (by rw[Jf.out,bB h3']);clear h3';go_upto_region 7 with (go_at_call 17;refine(KG.out id).mono ?_;rintro e w4 ⟨rfl,rfl⟩;rw[M7.out])
    cases hgf:Jn.get es fo with
    |none=>
     have IP:Hid (X=8):=I (by rw[Gb.out];exact Jn.abR hgf);have IY:=I (Jn.YP hgf);clear hgf;go_wp2_with (go_at_call 17;refine(KG.out fo).mono ?_;rintro e w4 ⟨rfl,rfl⟩;rw[IY.out]);go_ret;exact⟨by rw[IP.out];rfl,hb3⟩
    |some k=>
     obtain⟨hk,-⟩:=Jn.YR hgf;have IY:=I (Jn.YQ hgf);have tL:=I (Jn.abQ (x:=(⟨id,en,da,kd,fo,tx,⟨ll,lA,lc⟩⟩:aI)) (o:=es[k]) hgf (by rw[getD_lt es k default hk]));rw[<- Gb.out]at tL;dsimp only at tL;clear hgf;have hk0: ¬ (k:Int)<0:=O;have hk1:(0:Int)<=(k:Int):=O;have hk2:(k:Int)<(es.length:Int):=O;have Xv:=I (anq es fo sA sc w3 (HE.out.step hb3).rd hln);obtain⟨b,o,hA,aX,f0,f1,f2,f3,f4,f5,f6⟩:=aI.at_ (HE.out.step hb3).rd hk;subst hA;have hbd:=IV.out _ (bP hk);have hol:=(HE.out.ok _ (bP hk)).2.2.2.2.2.2.1.1;generalize es[k]=z at*;obtain⟨oi,oe,od,ok,oo,ot,⟨ol,oA,oc⟩⟩:=z;dsimp only[Sl.val]at*;have DK:=I hbd;have WJ:=I hol;clear hbd hol;have zX:Hid ((Jn.rev es fo).isSome=(Jn.zw es fo !=0)):=I (by
      rw[qm,HRP.out];unfold Jn.zw;simp)
     generalize (Jn.rev es fo).isSome=rb at*;generalize Jn.zw es fo=ri at*
     cases hk3:(ok==3)
     ·have xX:decide (ok=3)=ag:=by simpa using hk3
      rw[xX,Bool.false_or]at tL;clear xX
      cases K8:(ri !=0)
      ·rw[K8]at zX;rw[zX.out]at tL;have HQ:Hid (X=if decide (oe=en)&&decide (od<=da)&&Jn.mr ll ol then 0 else 18):=I tL.out;clear tL zX;go_upto_region 12 with (first
        |(go_at_call 17;refine(KG.out fo).mono ?_;rintro e w4 ⟨rfl,rfl⟩;rw[IY.out])
        |(go_at_call 138;refine Xv.out.mono ?_;rintro e w4 ⟨rfl,rfl⟩))
       obtain⟨wo,hwo⟩: ∃ wo:Z,wo=w3:=⟨_,rfl⟩;have q1: ∀ d:Later w3,d.now.cell? ⟨b,o+k*7+1,J⟩=N (G F oe):=λd=>d.cell aX f1
       have q2: ∀ d:Later w3,d.now.cell? ⟨b,o+k*7+2,J⟩=N (G F od):=λd=>d.cell aX f2
       have q6: ∀ d:Later w3,d.now.cell? ⟨b,o+k*7+6,J⟩=N (T oA ol.length oc):=λd=>d.cell aX f6
       have p1: ∀ d:Later w3,d.now.cell? ⟨w.heap.size+1,1,J⟩=N (G F en):=λd=>d.cell aP.out.lt (aP.out.cell 1)
       have p2: ∀ d:Later w3,d.now.cell? ⟨w.heap.size+1,2,J⟩=N (G F da):=λd=>d.cell aP.out.lt (aP.out.cell 2)
       have p6: ∀ d:Later w3,d.now.cell? ⟨w.heap.size+1,6,J⟩=N (T lA ll.length lc):=λd=>d.cell aP.out.lt (aP.out.cell 6)
       clear hwo f0 f1 f2 f3 f4 f5 f6 k0 k1 k2 k3 k4 k6
       cases hoe:(oe !=en)
       ·by_cases OD:da<od
        ·have HE:Hid (X=18):=I (by rw[HQ.out];simp;omega);refine eX ai ai ?_;(repeat (go_big_quiet_step ((fail))));refine wpQuiet_nil ?_;rintro _ ⟨dq,rfl⟩;have hbe:=ay hb3 dq.below;go_wp2_with fail;go_ret;exact⟨by rw[HE.out];rfl,hbe⟩
        ·have x8:decide (oe=en)=ae:=by simpa using hoe
         have Ku:decide (od<=da)=ae:=bL;have zW:Hid (X=if Jn.mr ll ol then 0 else 18):=I (by rw[HQ.out,x8,Ku];rfl);clear x8 Ku HQ;have K:=I (λW h1 h2=>anf ll ol lA oA lc oc W h1 h2 hn (by have:=DK.out.1;omega) (λy hy=>by have:=DK.out.2 y hy;omega))
         cases hop:Jn.mr ll ol
         ·have HE:Hid (X=18):=I (by rw[zW.out,hop];rfl);rw[hop]at K;clear hop;refine eX ai ai ?_
          (repeat (go_big_quiet_step ((fail))));go_big_quiet_step ((go_at_call 139;exact Later.call _ (K.out _ (Rd.now HR.out (ay hb3 (Later.below _))) (Rd.now WJ.out (ay hb3 (Later.below _))))))
          (repeat (go_big_quiet_step ((fail))));refine wpQuiet_nil ?_;rintro _ ⟨dq,rfl⟩
          have hbe:=ay hb3 dq.below;go_wp2_with fail;go_ret;exact⟨by rw[HE.out];rfl,hbe⟩
         ·have HE:Hid (X=0):=I (by rw[zW.out,hop];rfl);rw[hop]at K;clear hop;refine eX ai ai ?_
          (repeat (go_big_quiet_step ((fail))));go_big_quiet_step ((go_at_call 139;exact Later.call _ (K.out _ (Rd.now HR.out (ay hb3 (Later.below _))) (Rd.now WJ.out (ay hb3 (Later.below _))))))
          (repeat (go_big_quiet_step ((fail))));refine wpQuiet_nil ?_;rintro _ ⟨dq,rfl⟩
          have hbe:=ay hb3 dq.below;go_wp2_with fail;go_ret;exact⟨by rw[HE.out];rfl,hbe⟩
       ·have x8:decide (oe=en)=ag:=by simpa using hoe
        have HE:Hid (X=18):=I (by rw[HQ.out,x8];rfl);clear x8;refine eX ai ai ?_;(repeat (go_big_quiet_step ((fail))));refine wpQuiet_nil ?_;rintro _ ⟨dq,rfl⟩;have hbe:=ay hb3 dq.below;go_wp2_with fail;go_ret;exact⟨by rw[HE.out];rfl,hbe⟩
      ·rw[K8]at zX;rw[zX.out]at tL;have HE:Hid (X=7):=I tL.out;clear tL zX;go_wp2_with (first
        |(go_at_call 17;refine(KG.out fo).mono ?_;rintro e w4 ⟨rfl,rfl⟩;rw[IY.out])
        |(go_at_call 138;refine Xv.out.mono ?_;rintro e w4 ⟨rfl,rfl⟩))
       go_ret;exact⟨by rw[HE.out];rfl,hb3⟩
     ·have xX:decide (ok=3)=ae:=by simpa using hk3
      have HE:Hid (X=7):=I (by rw[tL.out,xX];rfl);clear xX tL zX;go_wp2_with (go_at_call 17;refine(KG.out fo).mono ?_;rintro e w4 ⟨rfl,rfl⟩;rw[IY.out]);go_ret;exact⟨by rw[HE.out];rfl,hb3⟩
 ·have hc0:c0≠0:=by simpa using hc
  have HX:Hid (X=c0):=I (by rw[vR.out,bE hc0]);clear hc0;go_wp2_with fail;go_ret;exact⟨by rw[HX.out];rfl,hb3⟩
end
theorem kL.take {w:Z} {es:List aI} {A:Option aG} (h:kL w es A) (k:Nat) (hk:k<=es.length):kL w (es.take k) A:=
 ⟨amE aI.len h.rd k hk,λx hx=>h.ok x (FQ hx),λx hx=>h.ln x (FQ hx),λx hx=>h.am x (FQ hx)⟩
section
variable (aB:Array aj) (cur:ByteArray) (y m p:Int) (cl:List Acc) (cA:Option aG) (cc:Nat) (ro:dZ) (el:List aY) (eA:Option aG) (ec:Nat) (w:Z)
theorem amZ (es:List aI) (sA:Option aG) (sc:Nat) (HG:Hid (aB= #[av cur,G F y,G F m,G F p,T cA cl.length cc,G F ro.dU,G F ro.dR,G F ro.dO,G F ro.inventory,G F ro.reserve,G F ro.dV,G F ro.dJ,G F ro.acquired,G F ro.dX,G F ro.dP,G F ro.dN,G F ro.dQ,G F ro.dW,G F ro.difference,G F ro.dL,T eA el.length ec])) (h:eB w cl cA el eA) (hF:lY cur cl el) (hE:kL w es sA) (hn:es.length<=1000) (hsc:es.length<=sc):
 aF ak 51 #[az aB,T sA es.length sc] w (VK (qW (Gr.gv cur cl ro el (ax.ok y m p)) el.length (Jn.kB el) (Jn.dB y m p) es) w):=by
 have H:=I h;have HE:=I hE;have KV:=I (λW (h:eB W cl cA el eA)=>abG aB cur y m p cl cA cc ro el eA ec W HG h hF);have hgi:(ak.info? 29).map (·.size)=N aB.size:=by rw[HG.out];exact gy
 have hb:Below w.heap.size w (w.alloc (U aB 29)):=(aD _ _).alloc (aC _) _;have HB:=I (au.new w 29 aB);have DX:Hid (qW (Gr.gv cur cl ro el (ax.ok y m p)) el.length (Jn.kB el) (Jn.dB y m p) es=(Gr.gv cur cl ro el (ax.ok y m p)&&Jn.xR (Jn.bJ (Gr.gv cur cl ro el (ax.ok y m p)) el.length (Jn.kB el) (Jn.dB y m p)) es)):=I rfl;have vR:=I (λW id en da kd fo tx ll lA lc es' (h:eB W cl cA el eA) hE hes hln htx hr hn=>anm aB cur y m p cl cA cc ro el eA ec W id en da kd fo tx ll lA lc es' sA sc HG h hF hE hes hln htx hr hn);clear h hE hF;generalize qW (Gr.gv cur cl ro el (ax.ok y m p)) el.length (Jn.kB el) (Jn.dB y m p) es=fF at*;generalize SV:Jn.bJ (Gr.gv cur cl ro el (ax.ok y m p)) el.length (Jn.kB el) (Jn.dB y m p)=C at*;clear SV;generalize Gr.gv cur cl ro el (ax.ok y m p)=V at*;go_enter Tryz.func51,Tryz.ntmps51;go_upto_region 1 with fail
 generalize w.alloc (U aB 29)=W at*
 cases V
 ·have QM:Hid (fF=ag):=I DX.out;go_wp2_with (first
   |(refine cZ 29 (.tmp 2) rfl (w.heap.size) rfl ai (HB).out bQ hgi ?_)
   |(go_at_call 89;refine(KV.out _ (H.out.step hb)).mono ?_;rintro e w3 ⟨rfl,hb3⟩;have hb4:=ay hb hb3))
  go_ret2;exact⟨0,1,rfl,by rw[QM.out];simp,hb4⟩
 ·have pQ:Hid (fF=Jn.xR C es):=I (by rw[DX.out,qC]);clear DX;go_upto_region 3 with (first
   |(refine cZ 29 (.tmp 2) rfl (w.heap.size) rfl ai (HB).out bQ hgi ?_)
   |(go_at_call 89;refine(KV.out _ (H.out.step hb)).mono ?_;rintro e w3 ⟨rfl,hb3⟩;have hb4:=ay hb hb3;have jS:=I (HB.out.step hb3);clear hb3))
  clear hb HB KV;go_wp2_with fail;go_loopw [6] (λt wr=> ∃ k:Nat,k<=es.length/\Jn.AU C es k/\t= G F k/\au wr w.heap.size 29 aB/\Below w.heap.size w wr) (λt _=>es.length - (intOf t).toNat)
  case atStart=>exact⟨0,O,Jn.aaW C es,rfl,jS.out,hb4⟩
  case round=>
   clear hb4 jS;obtain⟨k,hk,hok,rfl,hB,hb⟩:=hrel;have dx:=I hok;have dY:=I hB;have hz:=hb.size;clear hok hB
   by_cases hlt:k<es.length
   ·obtain⟨b,o,hA,aX,f0,f1,f2,f3,f4,f5,f6⟩:=aI.at_ (Rd.now HE.out.rd hb) hlt;subst hA;have hxo:=HE.out.ok _ (bP hlt);have hxl:=HE.out.ln _ (bP hlt);have HST:=I (λh2=>Jn.aaV (C:=C) hlt dx.out h2);have eH:=I (λh2=>Jn.aaU (C:=C) (es:=es) hlt h2);generalize es[k]=x at*;obtain⟨id,en,da,kd,fo,tx,⟨ll,lA,lc⟩⟩:=x;dsimp only[Sl.val]at*;have htk:(es.take k).length=k:=by rw[jR];omega
    have Z8:(es.take k).length<=1000:=O;have QC:=I (Jn.aaX dx.out);have HC:=I (λW (hw:Below w.heap.size w W)=>vR.out W id en da kd fo tx ll lA lc (es.take k) (H.out.step hw) ((HE.out.step hw).take k hk) QC.out Z8 hxo.2.2.2.2.2.1 (Rd.now hxo.2.2.2.2.2.2.1.1 hw) O);rw[htk]at HC;generalize Jn.qi C (es.take k) ⟨id,en,da,kd,fo,tx,⟨ll,lA,lc⟩⟩=X at*;have q0:=λd:Later wr=>d.cell aX f0
    have q1:=λd:Later wr=>d.cell aX f1
    have q2:=λd:Later wr=>d.cell aX f2
    have q3:=λd:Later wr=>d.cell aX f3
    have q4:=λd:Later wr=>d.cell aX f4
    have q5:=λd:Later wr=>d.cell aX f5
    have q6:=λd:Later wr=>d.cell aX f6
    have hz2:(0:Int)<=(k:Int):=O;have hz3:(k:Int)<es.length:=O;have qV:(k:Int)<=sc:=O;clear f0 f1 f2 f3 f4 f5 f6 hxo hxl htk Z8;unfold xM at HC
    cases hX:(X !=0)
    ·have hX0:X=0:=by simpa using hX
     have kr:=I (HST.out hX0);clear hX0;go_upto_region 6 with fail
     refine eX ai ai ?_
     (repeat (go_big_quiet_step ((fail))));refine zq 29 (.tmp 2) rfl (w.heap.size) rfl ai (dY).out bQ hgi ?_;(try simp only[Zx])
     (repeat (go_big_quiet_step ((fail))));go_big_quiet_step ((go_at_call 90;exact Later.call _ (HC.out _ (ay hb (Later.below _)))))
     (repeat (go_big_quiet_step ((fail))));refine wpQuiet_nil ?_;rintro _ ⟨dq,rfl⟩
     have hbe:=ay hb dq.below;have HBe:=I (dY.out.step dq.below);go_wp2_with fail;go_roundw
     case rel=>exact⟨k+1,O,kr.out,by go_num,HBe.out,hbe⟩
     case measure=>simp[intOf];omega
    ·have hX0:X≠0:=by simpa using hX
     have Q6:=I (eH.out hX0);have HX0:=I hX0;clear hX0;go_upto_region 6 with fail
     refine eX ai ai ?_
     (repeat (go_big_quiet_step ((fail))));refine zq 29 (.tmp 2) rfl (w.heap.size) rfl ai (dY).out bQ hgi ?_;(try simp only[Zx])
     (repeat (go_big_quiet_step ((fail))));go_big_quiet_step ((go_at_call 90;exact Later.call _ (HC.out _ (ay hb (Later.below _)))))
     (repeat (go_big_quiet_step ((fail))));refine wpQuiet_nil ?_;rintro _ ⟨dq,rfl⟩
     have hbe:=ay hb dq.below;go_wp2_with fail;go_ret2;exact⟨k,X,rfl,⟨λh=>absurd h HX0.out,λh=>by rw[pQ.out,Q6.out]at h;cases h⟩,hbe⟩
   ·have IK:=I (Jn.aaT (C:=C) (es:=es) O dx.out);go_wp2_with fail;go_ret2;exact⟨0,0,rfl,by rw[pQ.out,IK.out];exact⟨λ_=>rfl,λ_=>rfl⟩,hb⟩
theorem am0 (es:List aI) (sA:Option aG) (sc:Nat) (HG:Hid (aB= #[av cur,G F y,G F m,G F p,T cA cl.length cc,G F ro.dU,G F ro.dR,G F ro.dO,G F ro.inventory,G F ro.reserve,G F ro.dV,G F ro.dJ,G F ro.acquired,G F ro.dX,G F ro.dP,G F ro.dN,G F ro.dQ,G F ro.dW,G F ro.difference,G F ro.dL,T eA el.length ec])) (h:eB w cl cA el eA) (hF:lY cur cl el) (hE:kL w es sA) (hn:es.length<=1000) (hsc:es.length<=sc):
 aF ak 19 #[az aB,T sA es.length sc] w (fD (qW (Gr.gv cur cl ro el (ax.ok y m p)) el.length (Jn.kB el) (Jn.dB y m p) es) w):=by
 have H:=I h;have HE:=I hE;have KC:=I (λW (h:eB W cl cA el eA) hE=>amZ aB cur y m p cl cA cc ro el eA ec W es sA sc HG h hF hE hn hsc);have hgi:(ak.info? 29).map (·.size)=N aB.size:=by rw[HG.out];exact gy
 have hb:Below w.heap.size w (w.alloc (U aB 29)):=(aD _ _).alloc (aC _) _;have HB:=I (au.new w 29 aB);clear h hE hF;generalize qW (Gr.gv cur cl ro el (ax.ok y m p)) el.length (Jn.kB el) (Jn.dB y m p) es=fF at*;go_enter Tryz.func19,Tryz.ntmps19;go_upto_region 1 with fail
 generalize w.alloc (U aB 29)=W at*;go_upto_region 2 with (first
  |(refine cZ 29 (.tmp 2) rfl (w.heap.size) rfl ai (HB).out bQ hgi ?_)
  |(go_at_call 51;refine(KC.out _ (H.out.step hb) (HE.out.step hb)).mono ?_;rintro e w3 ⟨kk,E,rfl,Y0,ah⟩;have hb3:=ay hb ah;have V4:=I Y0;clear ah Y0))
 cases fF
 ·have hx:(E==0)=ag:=by
   cases h:(E==0)
   ·rfl
   ·have:=V4.out.1 (by simpa using h);cases this
  go_wp2_with fail;go_ret;exact⟨rfl,hb3⟩
 ·have hx:(E==0)=ae:=by simpa using V4.out.2 rfl
  go_wp2_with fail;go_ret;exact⟨rfl,hb3⟩
end
def oL (id:Int) (x:aI):Bool:=x.id==id
theorem aaf (x:aI) (g:Nat) (a b:Int) (w:Z) (hg:g<w.heap.size) (hs:w.cell? ⟨g,0,J⟩=N (G F a)):
 aF ak 214 #[az #[G F x.id,G F x.bF,G F x.date,G F x.kind,G F x.of,av x.text,T x.lines.A x.lines.l.length x.lines.cap],aN (N ⟨g,0,J⟩)] w (fD (oL a x) w):=by
 have hb:Below w.heap.size w (w.alloc (U #[G F x.id,G F x.bF,G F x.date,G F x.kind,G F x.of,av x.text,T x.lines.A x.lines.l.length x.lines.cap] 107)):=(aD _ _).alloc (aC _) _;have hs2:(w.alloc (U #[G F x.id,G F x.bF,G F x.date,G F x.kind,G F x.of,av x.text,T x.lines.A x.lines.l.length x.lines.cap] 107)).cell? ⟨g,0,J⟩=N (G F a):=(hb.cell (p:=⟨g,0,J⟩) hg).trans hs;have HB:=I hb;clear hb;have HE:Hid (oL a x=(x.id==a)):=I rfl;go_enter Tryz.func214,Tryz.ntmps214;go_wp2_with fail;go_ret;exact⟨by rw[HE.out];rfl,HB.out⟩
theorem aiR (es:List aI) (sA:Option aG) (sc:Nat) (g:Nat) (a:Int) (w:Z) (hr:Rd w w.heap.size 7 sA es.length (cellsOf aI.cells es)) (hn:es.length<=1000000)
 (hg:g<w.heap.size) (hs:w.cell? ⟨g,0,J⟩=N (G F a)):
 aF ak 58 #[T sA es.length sc,.func (.func 214) #[] #[aN (N ⟨g,0,J⟩)]] w (λe w'=>e= .returned (G F (iN (oL a) es))/\Below w.heap.size w w'):=by
 have hb:=aD w.heap.size w;have HR:=I hr;have HS:=I hs;clear hr hs;go_enter Tryz.func58,Tryz.ntmps58;go_wp2_with fail;go_loopw [5,8] (λ_ t wr=> ∃ k:Nat,k<=es.length/\(∀ j (h:j<k) (h1:j<es.length),oL a (es[j]'h1)=ag)/\t= G F k/\Below w.heap.size w wr) (λ_ t _=>es.length - (intOf t).toNat)
 case atStart=>exact⟨0,O,λj h=>O,rfl,hb⟩
 case round=>
  clear hb;obtain⟨k,hk,hno,rfl,hb⟩:=hrel;have HN:=I hno;clear hno
  by_cases hlt:k<es.length
  ·obtain⟨b,o,hA,aX,f0,f1,f2,f3,f4,f5,f6⟩:=aI.at_ (HR.out.below hb (aC _)) hlt;subst hA;have hgs:g<wr.heap.size:=by have:=hb.size;omega
   have ET:wr.cell? ⟨g,0,J⟩=N (G F a):=(hb.cell (p:=⟨g,0,J⟩) hg).trans HS.out;have rO:=I ET;clear ET
   cases hq:oL a es[k]
   ·have HQ:=I hq;go_wp2_with (go_at_call 214;refine((aaf es[k] g a 0 _ hgs rO.out)).mono ?_;rintro e w2 ⟨rfl,hb2⟩;replace hb:=ay hb hb2;clear hb2);go_roundw
    case rel=>
     refine⟨k+1,O,λj h h1=> ?_,by go_num,hb⟩
     by_cases e:j=k
     ·subst e;exact HQ.out
     ·exact HN.out j O h1
    case measure=>simp[intOf];omega
   ·have HE:Hid (iN (oL a) es=k):=I (Cs k hlt (λj hj=>HN.out j hj O) hq);go_wp2_with (go_at_call 214;refine((aaf es[k] g a 0 _ hgs rO.out)).mono ?_;rintro e w2 ⟨rfl,hb2⟩;replace hb:=ay hb hb2;clear hb2);go_ret;exact⟨jg HE.out.symm,hb⟩
  ·have HE:Hid (iN (oL a) es= -1):=I (Gy λj hj=>HN.out j O hj);go_wp2_with fail;go_ret;exact⟨jg HE.out.symm,hb⟩
theorem aag (x:aI) (g:Nat) (a b:Int) (w:Z) (hg:g<w.heap.size) (hs:w.cell? ⟨g,0,J⟩=N (G F a)):
 aF ak 59 #[az #[G F x.id,G F x.bF,G F x.date,G F x.kind,G F x.of,av x.text,T x.lines.A x.lines.l.length x.lines.cap],aN (N ⟨g,0,J⟩)] w (fD (oL a x) w):=by
 have hb:Below w.heap.size w (w.alloc (U #[G F x.id,G F x.bF,G F x.date,G F x.kind,G F x.of,av x.text,T x.lines.A x.lines.l.length x.lines.cap] 107)):=(aD _ _).alloc (aC _) _;have hs2:(w.alloc (U #[G F x.id,G F x.bF,G F x.date,G F x.kind,G F x.of,av x.text,T x.lines.A x.lines.l.length x.lines.cap] 107)).cell? ⟨g,0,J⟩=N (G F a):=(hb.cell (p:=⟨g,0,J⟩) hg).trans hs;have HB:=I hb;clear hb;have HE:Hid (oL a x=(x.id==a)):=I rfl;go_enter Tryz.func59,Tryz.ntmps59;go_wp2_with fail;go_ret;exact⟨by rw[HE.out];rfl,HB.out⟩
theorem aiS (es:List aI) (sA:Option aG) (sc:Nat) (g:Nat) (a:Int) (w:Z) (hr:Rd w w.heap.size 7 sA es.length (cellsOf aI.cells es)) (hn:es.length<=1000000)
 (hg:g<w.heap.size) (hs:w.cell? ⟨g,0,J⟩=N (G F a)):
 aF ak 58 #[T sA es.length sc,.func (.func 59) #[] #[aN (N ⟨g,0,J⟩)]] w (λe w'=>e= .returned (G F (iN (oL a) es))/\Below w.heap.size w w'):=by
 have hb:=aD w.heap.size w;have HR:=I hr;have HS:=I hs;clear hr hs;go_enter Tryz.func58,Tryz.ntmps58;go_wp2_with fail;go_loopw [5,8] (λ_ t wr=> ∃ k:Nat,k<=es.length/\(∀ j (h:j<k) (h1:j<es.length),oL a (es[j]'h1)=ag)/\t= G F k/\Below w.heap.size w wr) (λ_ t _=>es.length - (intOf t).toNat)
 case atStart=>exact⟨0,O,λj h=>O,rfl,hb⟩
 case round=>
  clear hb;obtain⟨k,hk,hno,rfl,hb⟩:=hrel;have HN:=I hno;clear hno
  by_cases hlt:k<es.length
  ·obtain⟨b,o,hA,aX,f0,f1,f2,f3,f4,f5,f6⟩:=aI.at_ (HR.out.below hb (aC _)) hlt;subst hA;have hgs:g<wr.heap.size:=by have:=hb.size;omega
   have ET:wr.cell? ⟨g,0,J⟩=N (G F a):=(hb.cell (p:=⟨g,0,J⟩) hg).trans HS.out;have rO:=I ET;clear ET
   cases hq:oL a es[k]
   ·have HQ:=I hq;go_wp2_with (go_at_call 59;refine((aag es[k] g a 0 _ hgs rO.out)).mono ?_;rintro e w2 ⟨rfl,hb2⟩;replace hb:=ay hb hb2;clear hb2);go_roundw
    case rel=>
     refine⟨k+1,O,λj h h1=> ?_,by go_num,hb⟩
     by_cases e:j=k
     ·subst e;exact HQ.out
     ·exact HN.out j O h1
    case measure=>simp[intOf];omega
   ·have HE:Hid (iN (oL a) es=k):=I (Cs k hlt (λj hj=>HN.out j hj O) hq);go_wp2_with (go_at_call 59;refine((aag es[k] g a 0 _ hgs rO.out)).mono ?_;rintro e w2 ⟨rfl,hb2⟩;replace hb:=ay hb hb2;clear hb2);go_ret;exact⟨jg HE.out.symm,hb⟩
  ·have HE:Hid (iN (oL a) es= -1):=I (Gy λj hj=>HN.out j O hj);go_wp2_with fail;go_ret;exact⟨jg HE.out.symm,hb⟩
theorem YG {es:List aI} (hn:(es.map aI.id).Nodup) (k:Nat) (hk:k<es.length):iN (oL es[k].id) es=(k:Int):=by
 refine Cs k hk (λj hj=> ?_) (by simp[oL]);have hj2:j<es.length:=O
 cases h:oL es[k].id es[j]
 ·rfl
 ·have e:es[j].id=es[k].id:=by simpa [oL] using h
  have:=(Ip (i:=j) (j:=k) (h₀:=by simpa using hj2) (h₁:=by simpa using hk) hn).1 (by simpa using e);omega
theorem aiN {C:aI->Int} {es:List aI} (h:Jn.xR C es=ae):(es.map aI.id).Nodup:=by
 have ho:=Jn.NN.1 h;rw[List.nodup_iff_pairwise_ne,List.pairwise_iff_getElem];intro i j hi hj hij e;have hi':i<es.length:=by simpa using hi
 have hj':j<es.length:=by simpa using hj
 have hp:=ho j hj' hj';unfold Jn.qi at hp;have hg:(Jn.get (es.take j) es[j].id).isSome=ae:=by
  unfold Jn.get;rw[List.findIdx?_isSome,vG];refine⟨es[i],?_,by simpa using e⟩;rw[Dy];exact⟨i,O,rfl⟩
 split at hp
 ·omega
 ·rename_i hc;exact hc hp
def Sw (x:aI) (A:Option aG) (c:Nat):Array aj:= #[G F x.id,G F x.bF,G F x.date,G F x.kind,G F x.of,av x.text,T A x.lines.l.length c]
def Uw (y:bq):Array aj:= #[G F y.ek,G F y.amount,G F y.partner]
theorem amO {P:dH} {fs fs2:Array Field} {fn:Func} {p q r:Tmp} {ty PD:TypeId} (h:fn.results= #[.cell p ty,.cell q PD,.tmp r]) (tmps:Array aj) (w:Z) (g:Nat) (t:TypeId) (cs:Array aj) (g2:Nat) (t2:TypeId) (cs2:Array aj)
 (hp:tmps.getD p aV= aN (N ⟨g,0,J⟩)) (hq:tmps.getD q aV= aN (N ⟨g2,0,J⟩)) (hg:au w g t cs) (hg2:au w g2 t2 cs2) (hu:P.underlying ty=N (.struct fs)) (hu2:P.underlying PD=N (.struct fs2)) (hi:(P.info? ty).map (·.size)=N cs.size) (hi2:(P.info? PD).map (·.size)=N cs2.size):
 (results fn tmps).run P w= .ok (bG #[az cs,az cs2,tmps.getD r aV]) w:=by
 have hp':tmps[p]?.getD aV= aN (N ⟨g,0,J⟩):=by simpa using hp
 have hq':tmps[q]?.getD aV= aN (N ⟨g2,0,J⟩):=by simpa using hq
 simp[results,h,hp',hq',asAddr,Mm w g t ty cs (0,0) _ hg hu rfl hi,Mm w g2 t2 PD cs2 (0,0) _ hg2 hu2 rfl hi2]
def Qr (x:aI) (y:bq) (w:Z) (e:eG) (w':Z):Prop:=
 ∃ (A2:Option aG) (c2:Nat),e= .returned (bG #[az (Sw x A2 c2),az (Uw y),aA ae])/\Below w.heap.size w w'
section
variable (w:Z)
theorem alP (aH:Array aj) (es:List aI) (sA:Option aG) (sc:Nat) (k j:Nat) (hz0:aH.size=27) (h21:aH[21]? =N (T sA es.length sc)) (hE:kL w es sA) (hn:es.length<=1000)
 (hk:k<es.length) (hj:j<es[k].lines.l.length) (hid:iN (oL es[k].id) es=(k:Int)):
 aF ak 145 #[az aH,az #[G F es[k].id,G F j]] w (Qr es[k] es[k].lines.l[j] w):=by
 have HE:=I hE;have hbz:(ak.info? 36).map (·.size)=N aH.size:=by rw[hz0];kernel_rfl
 have yM:=I (hE.ok _ (bP hk)).2.2.2.2.2.2.1;have hln:=hE.ln _ (bP hk);obtain⟨b,o,hA,aX,f0,f1,f2,f3,f4,f5,f6⟩:=aI.at_ hE.rd hk;subst hA;generalize es[k]=x at*;obtain⟨id,en,da,kd,fo,tx,⟨ll,lA,lc⟩⟩:=x;dsimp only[Sl.val]at*;have HF:=I (cz f0 (cz f1 (cz f2 (cz f3 (cz f4 (cz f5 f6))))));clear hE f0 f1 f2 f3 f4 f5 f6;have M9:=I hid;clear hid;unfold Qr Sw Uw;dsimp only;have hb1:Below w.heap.size w (w.alloc (U aH 36)):=(aD _ _).alloc (aC _) _;have hb2:=hb1.alloc hb1.size (U #[G F id,G F (j:Int)] 70);have hb3:=hb2.alloc hb2.size (U sU 107);have hb4:=hb3.alloc hb3.size (U #[G F 0,G F 0,G F 0] 131);have HB:=I ((((au.new w 36 aH).alloc (U #[G F id,G F (j:Int)] 70)).alloc (U sU 107)).alloc (U #[G F 0,G F 0,G F 0] 131));have HR:=I (((eT w (U aH 36) 70 #[G F id,G F (j:Int)]).alloc (U sU 107)).alloc (U #[G F 0,G F 0,G F 0] 131));have HZ:=I ((eT (w.alloc (U aH 36)) (U #[G F id,G F (j:Int)] 70) 107 sU).alloc (U #[G F 0,G F 0,G F 0] 131));have HY:=I (eT ((w.alloc (U aH 36)).alloc (U #[G F id,G F (j:Int)] 70)) (U sU 107) 131 #[G F 0,G F 0,G F 0]);rw[fG]at HZ;rw[fG,fG]at HY;clear hb1 hb2 hb3;go_enter Tryz.func145,Tryz.ntmps145;go_upto_region 1 with fail
 change Code.wp _ _ _ _ ((((w.alloc (U aH 36)).alloc (U #[G F id,G F (j:Int)] 70)).alloc (U sU 107)).alloc (U #[G F 0,G F 0,G F 0] 131))
 generalize (((w.alloc (U aH 36)).alloc (U #[G F id,G F (j:Int)] 70)).alloc (U sU 107)).alloc (U #[G F 0,G F 0,G F 0] 131)=W at*;have k21:W.cell? ⟨w.heap.size,21,J⟩=N (T (N ⟨b,o,J⟩) es.length sc):=(HB.out.cell 21).trans h21;have hr1:=HR.out.lt;go_upto_region 2 with (go_at_call 58;refine(aiR es (N ⟨b,o,J⟩) sc _ id W (Rd.now HE.out.rd hb4) O hr1 (HR.out.cell 0)).mono ?_;rw[M9.out];rintro e w5 ⟨rfl,ah⟩;have hb5:=ay hb4 ah;have gB:=I (HB.out.step ah);have Jh:=I (HR.out.step ah);have rP:=I (HZ.out.step ah);have BN:=I (HY.out.step ah);clear ah)
 clear HB HR HZ HY hb4 k21 hr1;have k21:w5.cell? ⟨w.heap.size,21,J⟩=N (T (N ⟨b,o,J⟩) es.length sc):=(gB.out.cell 21).trans h21;have k1:w5.cell? ⟨w.heap.size+1,1,J⟩=N (G F (j:Int)):=Jh.out.cell 1;have kb: ∀ q:Nat,w5.cell? ⟨b,q,J⟩=w.cell? ⟨b,q,J⟩:=λq=>hb5.cell (p:=⟨b,q,J⟩) aX
 obtain⟨f0,f1,f2,f3,f4,f5,f6⟩:=HF.out;rw[<- kb]at f0 f1 f2 f3 f4 f5 f6;clear HF kb;have hj2:j<ll.length:=hj;have hd1:decide ((k:Int)<0)=ag:=iw O;have hd2:decide ((j:Int)<0)=ag:=iw O;have hd3:decide ((ll.length:Int)<=(j:Int))=ag:=iw O;go_quiet (fail);have hb6:Below w.heap.size w (w5.drewN nq):=iC hb5 nq;have mK:Hid (au (w5.drewN nq) w.heap.size 36 aH):=gB;have Gc:Hid (au (w5.drewN nq) (w.heap.size+1) 70 #[G F id,G F (j:Int)]):=Jh;have xJ:Hid (au (w5.drewN nq) (w.heap.size+1+1) 107 sU):=rP;have Rx:Hid (au (w5.drewN nq) (w.heap.size+1+1+1) 131 #[G F 0,G F 0,G F 0]):=BN;replace k21:(w5.drewN nq).cell? ⟨w.heap.size,21,J⟩=N (T (N ⟨b,o,J⟩) es.length sc):=k21;replace f0:(w5.drewN nq).cell? ⟨b,o+k*7,J⟩=_:=f0;replace f1:(w5.drewN nq).cell? ⟨b,o+k*7+1,J⟩=_:=f1;replace f2:(w5.drewN nq).cell? ⟨b,o+k*7+2,J⟩=_:=f2;replace f3:(w5.drewN nq).cell? ⟨b,o+k*7+3,J⟩=_:=f3;replace f4:(w5.drewN nq).cell? ⟨b,o+k*7+4,J⟩=_:=f4;replace f5:(w5.drewN nq).cell? ⟨b,o+k*7+5,J⟩=_:=f5;replace f6:(w5.drewN nq).cell? ⟨b,o+k*7+6,J⟩=_:=f6;clear gB Jh rP BN hb5 k1 hd1 hd2 hd3;generalize w5.drewN nq=w6 at*;go_upto_region 5 with fail
 have HX:=I (au.new w6 107 #[G F id,G F en,G F da,G F kd,G F fo,av tx,T lA ll.length lc]);have hst:=(aD w6.heap.size w6).alloc (aC _) (U #[G F id,G F en,G F da,G F kd,G F fo,av tx,T lA ll.length lc] 107);have fu:=ay hb6 hst;have WN:=I (Gc.out.step hst);have Em:=I (xJ.out.step hst);have Xk:=I (Rx.out.step hst);have hyl:=Rx.out.lt;clear hst mK Gc xJ Rx f0 f1 f2 f3 f4 f5 f6 k21 hb6;generalize w6.alloc (U #[G F id,G F en,G F da,G F kd,G F fo,av tx,T lA ll.length lc] 107)=w7 at*;generalize w6.heap.size=ex at*;have hxl:=HX.out.lt;have k6:w7.cell? ⟨ex,6,J⟩=N (T lA ll.length lc):=HX.out.cell 6;go_upto_region 6 with (go_at_call 215;refine(Yn ll lA lc _ (Rd.now yM.out.1 fu) O).mono ?_;rintro e w8 ⟨A2,c2,rfl,wE,ah⟩;have pU:=I wE;have gQ:=ay fu ah;have vU:=I (HX.out.step ah);have Ji:=I (WN.out.step ah);have Jt:=I (Em.out.step ah);have Xl:=I (Xk.out.step ah);have hw8:=ah.size;clear ah wE;have p6:=vU.out.frozen 6;have q6:w8.cell? ⟨ex,6,J⟩=N (T lA ll.length lc):=vU.out.cell 6)
 have vV:Hid (au (w8.setCell ⟨ex,6,J⟩ (T A2 ll.length c2)) ex 107 #[G F id,G F en,G F da,G F kd,G F fo,av tx,T A2 ll.length c2]):=I (vU.out.bZ 6 _);have WO:=I (Ji.out.far (p:=⟨ex,6,J⟩) (by show w.heap.size+1≠ex;omega) (T A2 ll.length c2));have qJ:=I (Jt.out.far (p:=⟨ex,6,J⟩) (by show w.heap.size+1+1≠ex;omega) (T A2 ll.length c2));have BO:=I (Xl.out.far (p:=⟨ex,6,J⟩) (by show w.heap.size+1+1+1≠ex;omega) (T A2 ll.length c2));have rM:Hid (gp bq.cells w7.heap.size 131 3 (w8.setCell ⟨ex,6,J⟩ (T A2 ll.length c2)) ⟨ll,A2,c2⟩):=I (MF pU.out (a:=⟨ex,6,J⟩) (by show ex<_;omega) _);have ah:=gQ.setCell (p:=⟨ex,6,J⟩) (by show w.heap.size<=ex;omega) (T A2 ll.length c2);clear p6 q6 k6 vU Ji Jt Xl pU gQ HX WN Em Xk fu;generalize w8.setCell ⟨ex,6,J⟩ (T A2 ll.length c2)=w9 at*;obtain⟨b6,o6,SN,ah1,g0,g1,g2⟩:=bq.at_ rM.out.lies.1 hj;subst SN;have hln:(⟨ll,N ⟨b6,o6,J⟩,c2⟩:Sl bq).l=ll:=rfl;dsimp only at g0 g1 g2;obtain⟨yy,zl⟩: ∃ yy,Hid (ll[j]=yy):=⟨_,I rfl⟩;rw[zl.out]at g0 g1 g2;obtain⟨y0,y1,y2⟩:=yy;dsimp only at*;have x0:w9.cell? ⟨ex,0,J⟩=N (G F id):=vV.out.cell 0;have x1:w9.cell? ⟨ex,1,J⟩=N (G F en):=vV.out.cell 1;have x2:w9.cell? ⟨ex,2,J⟩=N (G F da):=vV.out.cell 2;have x3:w9.cell? ⟨ex,3,J⟩=N (G F kd):=vV.out.cell 3;have x4:w9.cell? ⟨ex,4,J⟩=N (G F fo):=vV.out.cell 4;have x5:w9.cell? ⟨ex,5,J⟩=N (av tx):=vV.out.cell 5;have x6:w9.cell? ⟨ex,6,J⟩=N (T (N ⟨b6,o6,J⟩) ll.length c2):=vV.out.cell 6;have r1:w9.cell? ⟨w.heap.size+1,1,J⟩=N (G F (j:Int)):=WO.out.cell 1;have apD:w7.heap.size<=b6:=(World.ownsRow.lt rM.out b6 rfl).1;have n1: ¬ b6=w.heap.size+1+1:=O;have n2: ¬ w.heap.size+1+1=b6:=O;have n3: ¬ ex=w.heap.size+1+1:=O;have n4: ¬ w.heap.size+1+1=ex:=O;clear rM vV WO;have z0:w9.cell? ⟨w.heap.size+1+1,0,J⟩=N (G F 0):=qJ.out.cell 0;have zf0:w9.frozen? ⟨w.heap.size+1+1,0,J⟩=ag:=qJ.out.frozen 0;have z1:w9.cell? ⟨w.heap.size+1+1,1,J⟩=N (G F 0):=qJ.out.cell 1;have zf1:w9.frozen? ⟨w.heap.size+1+1,1,J⟩=ag:=qJ.out.frozen 1;have z2:w9.cell? ⟨w.heap.size+1+1,2,J⟩=N (G F 0):=qJ.out.cell 2;have zf2:w9.frozen? ⟨w.heap.size+1+1,2,J⟩=ag:=qJ.out.frozen 2;have z3:w9.cell? ⟨w.heap.size+1+1,3,J⟩=N (G F 0):=qJ.out.cell 3;have zf3:w9.frozen? ⟨w.heap.size+1+1,3,J⟩=ag:=qJ.out.frozen 3;have z4:w9.cell? ⟨w.heap.size+1+1,4,J⟩=N (G F 0):=qJ.out.cell 4;have zf4:w9.frozen? ⟨w.heap.size+1+1,4,J⟩=ag:=qJ.out.frozen 4;have z5:w9.cell? ⟨w.heap.size+1+1,5,J⟩=N (av ⟨#[]⟩):=qJ.out.cell 5;have zf5:w9.frozen? ⟨w.heap.size+1+1,5,J⟩=ag:=qJ.out.frozen 5;have z6:w9.cell? ⟨w.heap.size+1+1,6,J⟩=N (T J 0 0):=qJ.out.cell 6;have zf6:w9.frozen? ⟨w.heap.size+1+1,6,J⟩=ag:=qJ.out.frozen 6;have t0:w9.cell? ⟨w.heap.size+1+1+1,0,J⟩=N (G F 0):=BO.out.cell 0;have tf0:w9.frozen? ⟨w.heap.size+1+1+1,0,J⟩=ag:=BO.out.frozen 0;have t1:w9.cell? ⟨w.heap.size+1+1+1,1,J⟩=N (G F 0):=BO.out.cell 1;have tf1:w9.frozen? ⟨w.heap.size+1+1+1,1,J⟩=ag:=BO.out.frozen 1;have t2:w9.cell? ⟨w.heap.size+1+1+1,2,J⟩=N (G F 0):=BO.out.cell 2;have tf2:w9.frozen? ⟨w.heap.size+1+1+1,2,J⟩=ag:=BO.out.frozen 2;have HZF:=I ((((((((((qJ.out.bZ 0 (G F id)).bZ 1 (G F en)).bZ 2 (G F da)).bZ 3 (G F kd)).bZ 4 (G F fo)).bZ 5 (av tx)).bZ 6 (T (N ⟨b6,o6,J⟩) ll.length c2)).far (p:=⟨w.heap.size+1+1+1,0,J⟩) (by show w.heap.size+1+1≠w.heap.size+1+1+1;omega) (G F y0)).far (p:=⟨w.heap.size+1+1+1,1,J⟩) (by show w.heap.size+1+1≠w.heap.size+1+1+1;omega) (G F y1)).far (p:=⟨w.heap.size+1+1+1,2,J⟩) (by show w.heap.size+1+1≠w.heap.size+1+1+1;omega) (G F y2)).drew;have HYF:=I ((((((((((BO.out.far (p:=⟨w.heap.size+1+1,0,J⟩) (by show w.heap.size+1+1+1≠w.heap.size+1+1;omega) (G F id)).far (p:=⟨w.heap.size+1+1,1,J⟩) (by show w.heap.size+1+1+1≠w.heap.size+1+1;omega) (G F en)).far (p:=⟨w.heap.size+1+1,2,J⟩) (by show w.heap.size+1+1+1≠w.heap.size+1+1;omega) (G F da)).far (p:=⟨w.heap.size+1+1,3,J⟩) (by show w.heap.size+1+1+1≠w.heap.size+1+1;omega) (G F kd)).far (p:=⟨w.heap.size+1+1,4,J⟩) (by show w.heap.size+1+1+1≠w.heap.size+1+1;omega) (G F fo)).far (p:=⟨w.heap.size+1+1,5,J⟩) (by show w.heap.size+1+1+1≠w.heap.size+1+1;omega) (av tx)).far (p:=⟨w.heap.size+1+1,6,J⟩) (by show w.heap.size+1+1+1≠w.heap.size+1+1;omega) (T (N ⟨b6,o6,J⟩) ll.length c2)).bZ 0 (G F y0)).bZ 1 (G F y1)).bZ 2 (G F y2)).drew;have hbF:=((((((((((ah.setCell (p:=⟨w.heap.size+1+1,0,J⟩) (by show w.heap.size<=w.heap.size+1+1;omega) (G F id)).setCell (p:=⟨w.heap.size+1+1,1,J⟩) (by show w.heap.size<=w.heap.size+1+1;omega) (G F en)).setCell (p:=⟨w.heap.size+1+1,2,J⟩) (by show w.heap.size<=w.heap.size+1+1;omega) (G F da)).setCell (p:=⟨w.heap.size+1+1,3,J⟩) (by show w.heap.size<=w.heap.size+1+1;omega) (G F kd)).setCell (p:=⟨w.heap.size+1+1,4,J⟩) (by show w.heap.size<=w.heap.size+1+1;omega) (G F fo)).setCell (p:=⟨w.heap.size+1+1,5,J⟩) (by show w.heap.size<=w.heap.size+1+1;omega) (av tx)).setCell (p:=⟨w.heap.size+1+1,6,J⟩) (by show w.heap.size<=w.heap.size+1+1;omega) (T (N ⟨b6,o6,J⟩) ll.length c2)).setCell (p:=⟨w.heap.size+1+1+1,0,J⟩) (by show w.heap.size<=w.heap.size+1+1+1;omega) (G F y0)).setCell (p:=⟨w.heap.size+1+1+1,1,J⟩) (by show w.heap.size<=w.heap.size+1+1+1;omega) (G F y1)).setCell (p:=⟨w.heap.size+1+1+1,2,J⟩) (by show w.heap.size<=w.heap.size+1+1+1;omega) (G F y2)).drew;go_region;clear z0 z1 z2 z3 z4 z5 z6 zf0 zf1 zf2 zf3 zf4 zf5 zf6 t0 t1 t2 tf0 tf1 tf2 x0 x1 x2 x3 x4 x5 x6 r1 n1 n2 n3 n4 g0 g1 g2 qJ BO ah;generalize ((((((((((w9.setCell ⟨w.heap.size+1+1,0,J⟩ (G F id)).setCell ⟨w.heap.size+1+1,1,J⟩ (G F en)).setCell ⟨w.heap.size+1+1,2,J⟩ (G F da)).setCell ⟨w.heap.size+1+1,3,J⟩ (G F kd)).setCell ⟨w.heap.size+1+1,4,J⟩ (G F fo)).setCell ⟨w.heap.size+1+1,5,J⟩ (av tx)).setCell ⟨w.heap.size+1+1,6,J⟩ (T (N ⟨b6,o6,J⟩) ll.length c2)).setCell ⟨w.heap.size+1+1+1,0,J⟩ (G F y0)).setCell ⟨w.heap.size+1+1+1,1,J⟩ (G F y1)).setCell ⟨w.heap.size+1+1+1,2,J⟩ (G F y2)).drew=wF at*;go_wp2_with fail;refine iq (v:= bG #[az #[G F id,G F en,G F da,G F kd,G F fo,av tx,T (N ⟨b6,o6,J⟩) ll.length c2],az #[G F y0,G F y1,G F y2],aA ae]) (amO Tryz.results145 _ _ (w.heap.size+1+1) 107 #[G F id,G F en,G F da,G F kd,G F fo,av tx,T (N ⟨b6,o6,J⟩) ll.length c2] (w.heap.size+1+1+1) 131 #[G F y0,G F y1,G F y2] rfl rfl HZF.out HYF.out mH Tryz.underlying131 Al ai) rfl ?_;exact⟨⟨N ⟨b6,o6,J⟩,c2,by rw[zl.out]⟩,hbF⟩
end
structure yX (w:Z) (l:List aO) (A:Option aG):Prop where
 rd:Rd w w.heap.size 2 A l.length (cellsOf aO.cells l)
theorem yX.step {w w2:Z} {l:List aO} {A:Option aG} (h:yX w l A) (hb:Below w.heap.size w w2):yX w2 l A:=⟨Rd.now h.rd hb⟩
theorem aj4 {es:List aI} {bA e q:Int} {r:aO} (h:pX es bA e q r): ∃ (k:Nat) (hk:k<es.length) (j:Nat) (hj:j<es[k].lines.l.length),r=⟨es[k].id,(j:Int)⟩/\es[k].bF=e/\es[k].lines.l[j].partner=q:=by
 obtain⟨y,hy,j,hj,rfl,_,h1,h2⟩:=h;obtain⟨k,hk,rfl⟩:=iK.1 hy;exact⟨k,hk,j,hj,rfl,h1,h2⟩
section
variable (w:Z)
theorem aaK (aH:Array aj) (es:List aI) (sA:Option aG) (sc:Nat) (bA e q:Int) (hz0:aH.size=27) (h21:aH[21]? =N (T sA es.length sc)) (hE:kL w es sA) (hn:es.length<=1000) (hid:(es.map aI.id).Nodup)
 (l:List aO) (lA:Option aG) (lc:Nat) (hl:yX w l lA) (hl1:1<=l.length) (hl2:l.length<=12) (hok: ∀ r∈l,pX es bA e q r):
 aF ak 97 #[az aH,T lA l.length lc] w (λr w'=>r= .returned (bG #[G F e,G F q,aA ae])/\Below w.heap.size w w'):=by
 have HE:=I hE;have HLI:=I hl;have dx:=I hok;have hbz:(ak.info? 36).map (·.size)=N aH.size:=by rw[hz0];kernel_rfl
 have h27:(ak.info? 36).map (·.size)=N 27:=ai;have hb1:Below w.heap.size w (w.alloc (U aH 36)):=(aD _ _).alloc (aC _) _;have HB:=I (au.new w 36 aH);have KF:=I (λW k j hk hj hW=>alP W aH es sA sc k j hz0 h21 hW hn hk hj (YG hid k hk));clear hE hl hok;go_enter Tryz.func97,Tryz.ntmps97;go_upto_region 1 with fail
 generalize w.alloc (U aH 36)=W at*;go_wp2_with fail;go_loopw [7,8,16] (λa b t wr=> ∃ k:Nat,k<=l.length/\t= G F k/\a= G F (if k=0 then 0 else e)/\b= G F (if k=0 then 0 else q)/\au wr w.heap.size 36 aH/\Below w.heap.size w wr) (λ_ _ t _=>l.length - (intOf t).toNat)
 case atStart=>exact⟨0,O,rfl,rfl,rfl,HB.out,hb1⟩
 case round=>
  clear hb1 HB;obtain⟨k,hk,rfl,rfl,rfl,hB,hb⟩:=hrel;have HB:=I hB;clear hB;have hz:=hb.size
  by_cases hlt:k<l.length
  ·obtain⟨b,o,hA,aX,f0,f1⟩:=aO.at_ (Rd.now HLI.out.rd hb) hlt;subst hA;obtain⟨x,y,j,hr,hen,Ub,Nw⟩: ∃ (x:aI) (y:bq) (j:Nat),l[k]=⟨x.id,(j:Int)⟩/\x.bF=e/\y.partner=q/\Hid (∀ W,kL W es sA->aF ak 145 #[az aH,az #[G F x.id,G F (j:Int)]] W (Qr x y W)):=by
    obtain⟨i,hi,j,hj,hr,hen,Ub⟩:=aj4 (dx.out _ (bP hlt));exact⟨es[i],es[i].lines.l[j],j,hr,hen,Ub,I (λW hW=>KF.out W i j hi hj hW)⟩
   rw[hr]at f0 f1;obtain⟨id,en,da,kd,fo,tx,⟨ll,lA2,lc2⟩⟩:=x;obtain⟨y0,y1,y2⟩:=y;dsimp only at*;subst hen Ub;have hst:=(aD wr.heap.size wr).alloc (aC _) (U #[G F id,G F (j:Int)] 70);have HB1:=I (HB.out.step hst);have HR1:=I (au.new wr 70 #[G F id,G F (j:Int)]);have hb1:=ay hb hst;clear hr hst HB;go_upto_region 5 with fail
   generalize wr.alloc (U #[G F id,G F (j:Int)] 70)=wq at*;generalize wr.heap.size=rx at*;clear f0 f1;have hrg:wq.rangeAt w.heap.size 0 aH.toList:=Ag HB1.out;have r0:wq.cell? ⟨rx,0,J⟩=N (G F id):=HR1.out.cell 0;have r1:wq.cell? ⟨rx,1,J⟩=N (G F (j:Int)):=HR1.out.cell 1;go_upto_region 6 with (first
    |(refine gP rfl 36 (.tmp 2) rfl w.heap.size 0 rfl aH hrg jB 27 h27 hz0 ?_)
    |(go_at_call 145;refine(Nw.out wq (HE.out.step hb1)).mono ?_;rintro r w4 ⟨A2,c2,rfl,ah⟩;simp only[Sw,Uw];have hb4:=ay hb1 ah;have jS:=I (HB1.out.step ah);clear ah))
   have hx4:=hb4.size;have gB:=I ((jS.out.alloc (U #[G F id,G F en,G F da,G F kd,G F fo,av tx,T A2 ll.length c2] 107)).alloc (U #[G F y0,G F y1,G F y2] 131));have gN:=I ((au.new w4 107 #[G F id,G F en,G F da,G F kd,G F fo,av tx,T A2 ll.length c2]).alloc (U #[G F y0,G F y1,G F y2] 131));have BN:=I (eT w4 (U #[G F id,G F en,G F da,G F kd,G F fo,av tx,T A2 ll.length c2] 107) 131 #[G F y0,G F y1,G F y2]);have hb5:=(hb4.alloc hb4.size (U #[G F id,G F en,G F da,G F kd,G F fo,av tx,T A2 ll.length c2] 107)).alloc bL (U #[G F y0,G F y1,G F y2] 131);generalize (w4.alloc (U #[G F id,G F en,G F da,G F kd,G F fo,av tx,T A2 ll.length c2] 107)).alloc (U #[G F y0,G F y1,G F y2] 131)=w5 at*;generalize w4.heap.size=ex at*;have x1:w5.cell? ⟨ex,1,J⟩=N (G F en):=gN.out.cell 1;have t2:w5.cell? ⟨ex+1,2,J⟩=N (G F y2):=BN.out.cell 2;clear jS hb4 hrg r0 r1
   by_cases h0:k=0
   ·subst h0;go_upto_region 8 with fail
    go_quiet (fail);have mK:Hid (au (w5.drewN nq) w.heap.size 36 aH):=gB;have hb6:=iC hb5 nq;clear x1 t2 gB hb5 gN BN;generalize w5.drewN nq=w6 at*;go_wp2_with fail;go_roundw
    case rel=>exact⟨1,O,by go_num,rfl,rfl,mK.out,hb6⟩
    case measure=>simp[intOf];omega
   ·have hkd:decide (0<k)=ae:=bL;rw[bE h0,bE h0];go_upto_region 8 with fail
    go_quiet (fail);have mK:Hid (au (w5.drewN nq) w.heap.size 36 aH):=gB;have hb6:=iC hb5 nq;clear x1 t2 gB hb5 gN BN;generalize w5.drewN nq=w6 at*;go_wp2_with fail;go_roundw
    case rel=>exact⟨k+1,O,by go_num,rfl,rfl,mK.out,hb6⟩
    case measure=>simp[intOf];omega
  ·have hk0: ¬ k=0:=O;rw[bE hk0,bE hk0];have hd1:decide (1<=l.length)=ae:=kK O;have hd2:decide ((l.length:Int)<=12)=ae:=kK O;have hd3:decide (l.length<=12)=ae:=kK O;go_wp2_with fail;go_ret3;exact⟨rfl,hb⟩
end
structure RS (es:List aI) (bA e q:Int) (m:dz):Prop where
 ne:e≠q
 l: ∀ r∈m.left.l,pX es bA e q r
 r: ∀ r∈m.right.l,pX es bA q e r
 ll:1<=m.left.l.length/\m.left.l.length<=12
 lr:1<=m.right.l.length/\m.right.l.length<=12
 st:1<=m.state/\m.state<=5
 nd:(m.left.l++m.right.l).Nodup
theorem UE {α:Type} {l:List α} (h:l.Nodup) (k:Nat) (hk:k<l.length):l[k] ∉ l.take k:=by
 intro hm;obtain⟨i,hi,e⟩:=iK.1 hm;have hi2:i<k:=by rw[jR]at hi;omega
 rw[yD]at e;have:=(Ip (h₀:=by omega) (h₁:=hk) h).1 e;omega
section
variable (w:Z)
theorem aaN (aH:Array aj) (es:List aI) (sA:Option aG) (sc:Nat) (bA e q:Int) (hz0:aH.size=27) (h21:aH[21]? =N (T sA es.length sc)) (hE:kL w es sA) (hn:es.length<=1000) (hid:(es.map aI.id).Nodup)
 (id:Int) (ll rl:List aO) (lA rA:Option aG) (lc rc:Nat) (st:Int) (hl:yX w ll lA) (hr:yX w rl rA) (hok:RS es bA e q ⟨id,⟨ll,lA,lc⟩,⟨rl,rA,rc⟩,st⟩):
 aF ak 66 #[az aH,az #[G F id,T lA ll.length lc,T rA rl.length rc,G F st]] w (λr w'=>r= .returned (bG #[G F e,G F q,G F 0])/\Below w.heap.size w w'):=by
 have HE:=I hE;have HL:=I hl;have HR:=I hr;obtain⟨o1,o2,o3,⟨o4,o5⟩,⟨o6,o7⟩,⟨o8,o9⟩,UF⟩:=hok;dsimp only at o2 o3 o4 o5 o6 o7 o8 o9 UF;have KE1:=I (λW hW Tq=>aaK W aH es sA sc bA e q hz0 h21 hW hn hid ll lA lc Tq o4 o5 o2);have KE2:=I (λW hW Tq=>aaK W aH es sA sc bA q e hz0 h21 hW hn hid rl rA rc Tq o6 o7 o3);have xD:=I UF;have Aa:Hid (∀ x∈ll++rl,Wf x.entry/\Wf x.line):=I (λx hx=>by
  rcases il.1 hx with h|h
  ·exact C8 hE (o2 x h)
  ·exact C8 hE (o3 x h))
 have hmm:= @rC ak;have hbz:(ak.info? 36).map (·.size)=N aH.size:=by rw[hz0];kernel_rfl
 have h27:(ak.info? 36).map (·.size)=N 27:=ai;have hb1:Below w.heap.size w ((w.alloc (U aH 36)).alloc (U #[G F id,T lA ll.length lc,T rA rl.length rc,G F st] 58)):=((aD _ _).alloc (aC _) _).alloc aL _;have HB:=I ((au.new w 36 aH).alloc (U #[G F id,T lA ll.length lc,T rA rl.length rc,G F st] 58));have HM:=I (eT w (U aH 36) 58 #[G F id,T lA ll.length lc,T rA rl.length rc,G F st]);have d1:(e==q)=ag:=by simpa using o1
 have d2:(q !=q)=ag:=aL;have d3:(e !=e)=ag:=aL;have d4:decide (st<1)=ag:=iw O;have d5:decide (5<st)=ag:=iw O;clear hE hl hr o1 o2 o3 o8 o9 UF;go_enter Tryz.func66,Tryz.ntmps66;go_upto_region 1 with fail
 generalize (w.alloc (U aH 36)).alloc (U #[G F id,T lA ll.length lc,T rA rl.length rc,G F st] 58)=W at*;have hrg:W.rangeAt w.heap.size 0 aH.toList:=Ag HB.out;have k1:W.cell? ⟨w.heap.size+1,1,J⟩=N (T lA ll.length lc):=HM.out.cell 1;go_upto_region 2 with (first
  |(refine gP rfl 36 (.tmp 2) rfl w.heap.size 0 rfl aH hrg jB 27 h27 hz0 ?_)
  |(go_at_call 97;refine(KE1.out W (HE.out.step hb1) (HL.out.step hb1)).mono ?_;rintro r w3 ⟨rfl,ah⟩;have hb3:=ay hb1 ah;have HB3:=I (HB.out.step ah);have tK:=I (HM.out.step ah);clear ah))
 clear hrg k1 HB HM hb1;have hrg:w3.rangeAt w.heap.size 0 aH.toList:=Ag HB3.out;have k2:w3.cell? ⟨w.heap.size+1,2,J⟩=N (T rA rl.length rc):=tK.out.cell 2;go_upto_region 3 with (first
  |(refine gP rfl 36 (.tmp 2) rfl w.heap.size 0 rfl aH hrg jB 27 h27 hz0 ?_)
  |(go_at_call 97;refine(KE2.out w3 (HE.out.step hb3) (HR.out.step hb3)).mono ?_;rintro r w4 ⟨rfl,ah⟩;have hb4:=ay hb3 ah;have DZ:=I (tK.out.step ah);clear ah))
 clear hrg k2 HB3 tK hb3;have k3:w4.cell? ⟨w.heap.size+1,3,J⟩=N (G F st):=DZ.out.cell 3;have kr:Hid (kC (w4.alloc (.map #[] 0)) w4.heap.size 0 []):=I (by unfold kC;rw[Pj];exact fw.made w4);have hb5:=hb4.alloc hb4.size (.map #[] 0);have I8:=I (DZ.out.alloc (.map #[] 0));have hw4:=hb4.size;go_upto_region 6 with fail
 clear k3 d1 d2 d3 d4 d5 DZ hb4;generalize w4.alloc (.map #[] 0)=w5 at*;generalize w4.heap.size=mb at*;have k1:w5.cell? ⟨w.heap.size+1,1,J⟩=N (T lA ll.length lc):=I8.out.cell 1;have k2:w5.cell? ⟨w.heap.size+1,2,J⟩=N (T rA rl.length rc):=I8.out.cell 2;obtain⟨C,hC⟩: ∃ C,Hid (C=ll++rl):=⟨_,I rfl⟩;have xN:=(λg gc gt W1 hg hb=>Si ll rl lA rA lc rc g gc gt W1 hg (Rd.now HL.out.rd hb) (Rd.now HR.out.rd hb) O O);have Eh:=Aa.out;have eH:=xD.out;rw[<- hC.out]at xN Eh eH;have KC:=I xN;have HW:=I Eh;have HN:=I eH;have SX:C.length<=24:=by rw[hC.out,fK];omega
 clear xN Eh eH Aa xD;have hst:=hb5.alloc hb5.size (U #[T lA ll.length lc,T rA rl.length rc] 54);have HG:=I (au.new w5 54 #[T lA ll.length lc,T rA rl.length rc]);have eP:=I (fw.alloc kr.out (U #[T lA ll.length lc,T rA rl.length rc] 54));go_wp2_with (go_at_call 33;refine(KC.out _ _ _ _ HG.out hst).mono ?_;rintro e w6 ⟨A3,c3,rfl,ho3,ah⟩;have hb6:=ay hst ah;have HR3:=I ho3.lies.1;have gK:=I (fw.step eP.out ah);clear ah ho3);clear HG kr eP hb5 hst KC k1 k2 I8;go_loopw [71] (λt wr=> ∃ k:Nat,k<=C.length/\t= G F k/\kC wr mb k (C.take k)/\Rd wr wr.heap.size 2 A3 C.length (cellsOf aO.cells C)/\Below w.heap.size w wr) (λt _=>C.length - (intOf t).toNat)
 case atStart=>exact⟨0,O,rfl,gK.out,HR3.out,hb6⟩
 case round=>
  obtain⟨k,hk,rfl,hS,EJ,hb⟩:=hrel;clear hb6 gK HR3;have hz:=hb.size
  by_cases hlt:k<C.length
  ·obtain⟨b,o,hA,aX,f0,f1⟩:=aO.at_ EJ hlt;subst hA;obtain⟨w1,w2⟩:=HW.out _ (bP hlt);have nP:Hid (C.take (k+1)=C.take k++ [C[k]]):=I (gY hlt);have xE:=I (UE HN.out k hlt);obtain⟨S,Kl⟩: ∃ S,Hid (S=C.take k):=⟨_,I rfl⟩;have Ef:=nP.out;have Q7:=xE.out;rw[<- Kl.out]at hS Ef Q7;clear nP xE Kl;have nP:=I Ef;generalize C[k]=x at*;have hno:=abq Q7;clear Ef Q7;obtain⟨kl,hkl⟩:=Dj (r:=x) w1 w2;have HH:=I (LC S x);have jm:=I (LF S x);obtain⟨x0,x1⟩:=x;have hst:=(aD wr.heap.size wr).alloc (aC _) (U #[G F x0,G F x1] 70);have hS1:=fw.step hS hst;have hb1:=ay hb hst;have oI:=I (Rd.now EJ hst);have iO:=hS1.look (t:=99) uk iX Bn (uY _) hkl;rw[hno]at iO;unfold jK at hkl HH jm iO;dsimp only at*;clear hst hS w1 w2 EJ hno;unfold kC at*;go_wp2_with (at_mapUpdate;refine Bf (mV (S++ [⟨x0,x1⟩])) rfl _ _ _ 99 rfl uk iX Bn hS1 fQ (az #[G F x0,G F x1]) kl ae hkl rfl rfl rfl HH.out (λu lu _ hu=>jm.out u hu) ?_;intro w6 nY iE;have Kj:=(oI.out.past iE hS1.isMap).more iE.size;have hb6:Below w.heap.size w w6:=ni hb1 iE hb1.size (λj hj=>by injection hj with hj;omega);clear iE hS1 iO);go_roundw
   case rel=>exact⟨k+1,O,by go_num,by rw[nP.out];exact nY,Kj,hb6⟩
   case measure=>simp[intOf];omega
  ·go_wp2_with fail;go_ret3;exact⟨rfl,hb⟩
end
theorem LX {P:dH} {fs:Array Field} {ops:Array dC} {rest:List dC} {o:dC} {a:Act} {w:Z} {Q:Exit->Act->Z->Prop} (hw:lg o (lh ops a.tmps)=ae) (ty:TypeId) (x:lU) (ho:o.op= .load ty x) (b off:Nat) (hx:a.eval x= aN (N ⟨b,off,J⟩)) (arr:Array aj) (hc:w.rangeAt b off arr.toList)
 (hu:P.underlying ty=N (.struct fs)) (n:Nat) (hi:(P.info? ty).map (·.size)=N n) (hn:arr.size=n)
 (h:wpList P ops Q rest (a.put o.dst (az arr)) w):wpList P ops Q (o::rest) a w:=
 BigFrame.wpList_want hw λK hK=>wp_load_mid ty x ho b off hx arr.toList _ hc hu rfl (by rw[hi,oq,hn]) (hK _ _ (by simpa using h))
structure RU (es:List aI) (bA e q:Int) (ms:List dz):Prop where
 ok: ∀ m∈ms,RS es bA e q m
 id: ∀ m∈ms,1<=m.id
 ids:(ms.map dz.id).Nodup
 nd:(mE ms).Nodup
 few:ms.length<=300
section
variable (w:Z)
theorem akk (aH:Array aj) (es:List aI) (sA:Option aG) (sc:Nat) (bA e q:Int) (hz0:aH.size=27) (h21:aH[21]? =N (T sA es.length sc)) (hE:kL w es sA) (hn:es.length<=1000) (hid:(es.map aI.id).Nodup)
 (id:Int) (ll rl:List aO) (lA rA:Option aG) (lc rc:Nat) (st:Int) (hl:yX w ll lA) (hr:yX w rl rA) (hok:RS es bA e q ⟨id,⟨ll,lA,lc⟩,⟨rl,rA,rc⟩,st⟩):
 aF ak 32 #[az aH,az #[G F id,T lA ll.length lc,T rA rl.length rc,G F st]] w (λr w'=>r= .returned (aA ae)/\Below w.heap.size w w'):=by
 have KS:=I (λW hE hl hr=>aaN W aH es sA sc bA e q hz0 h21 hE hn hid id ll rl lA rA lc rc st hl hr hok);have HE:=I hE;have HL:=I hl;have HR:=I hr;have hbz:(ak.info? 36).map (·.size)=N aH.size:=by rw[hz0];kernel_rfl
 have h27:(ak.info? 36).map (·.size)=N 27:=ai;have hb1:Below w.heap.size w ((w.alloc (U aH 36)).alloc (U #[G F id,T lA ll.length lc,T rA rl.length rc,G F st] 58)):=((aD _ _).alloc (aC _) _).alloc aL _;have HB:=I ((au.new w 36 aH).alloc (U #[G F id,T lA ll.length lc,T rA rl.length rc,G F st] 58));have HM:=I (eT w (U aH 36) 58 #[G F id,T lA ll.length lc,T rA rl.length rc,G F st]);clear hE hl hr hok;go_enter Tryz.func32,Tryz.ntmps32;go_upto_region 1 with fail
 generalize (w.alloc (U aH 36)).alloc (U #[G F id,T lA ll.length lc,T rA rl.length rc,G F st] 58)=W at*;have hrg:W.rangeAt w.heap.size 0 aH.toList:=Ag HB.out;have k0:W.cell? ⟨w.heap.size+1,0,J⟩=N (G F id):=HM.out.cell 0;have k1:W.cell? ⟨w.heap.size+1,1,J⟩=N (T lA ll.length lc):=HM.out.cell 1;have k2:W.cell? ⟨w.heap.size+1,2,J⟩=N (T rA rl.length rc):=HM.out.cell 2;have k3:W.cell? ⟨w.heap.size+1,3,J⟩=N (G F st):=HM.out.cell 3;go_wp2_with (first
  |(refine gP rfl 36 (.tmp 2) rfl w.heap.size 0 rfl aH hrg jB 27 h27 hz0 ?_)
  |(go_at_call 66;refine(KS.out W (HE.out.step hb1) (HL.out.step hb1) (HR.out.step hb1)).mono ?_;rintro r w3 ⟨rfl,ah⟩;have hb3:=ay hb1 ah;clear ah))
 go_ret;exact⟨rfl,hb3⟩
theorem aaE (aH:Array aj) (es:List aI) (sA:Option aG) (sc:Nat) (bA e q:Int) (hz0:aH.size=27) (h21:aH[21]? =N (T sA es.length sc)) (hE:kL w es sA) (hn:es.length<=1000) (hid:(es.map aI.id).Nodup)
 (ms:List dz) (mA:Option aG) (mc:Nat) (lK:aH[24]? =N (T mA ms.length mc)) (hM:tN w ms mA) (hok:RU es bA e q ms):
 aF ak 11 #[az aH] w (λr w'=>r= .returned (aA ae)/\Below w.heap.size w w'):=by
 have HE:=I hE;have HM:=I hM;have dx:=I hok;have CQ:=hok.few;have hmm:= @rC ak;have hbz:(ak.info? 36).map (·.size)=N aH.size:=by rw[hz0];kernel_rfl
 have h27:(ak.info? 36).map (·.size)=N 27:=ai;have hb1:Below w.heap.size w (w.alloc (U aH 36)):=(aD _ _).alloc (aC _) _;have HB:=I (au.new w 36 aH);clear hE hM hok;go_enter Tryz.func11,Tryz.ntmps11;go_upto_region 1 with fail
 generalize w.alloc (U aH 36)=W at*;have hb2:=(hb1.alloc hb1.size (.map #[] 0));have hb3:=hb2.alloc hb2.size (.map #[] 0);have HI0:=I ((iH.made (P:=ak) (k:=3) (e:=4) W).alloc (.map #[] 0));have kr:Hid (kC ((W.alloc (.map #[] 0)).alloc (.map #[] 0)) (W.heap.size+1) 0 []):=I (by unfold kC;rw[Pj];have:=fw.made (P:=ak) (k:=70) (e:=4) (W.alloc (.map #[] 0));rwa [fG]at this);have HB3:=I ((HB.out.alloc (.map #[] 0)).alloc (.map #[] 0));have hwm:=hb1.size;go_upto_region 2 with fail
 clear hb1 hb2 HB;generalize (W.alloc (.map #[] 0)).alloc (.map #[] 0)=W3 at*;generalize W.heap.size=mi at*;have k24:W3.cell? ⟨w.heap.size,24,J⟩=N (T mA ms.length mc):=(HB3.out.cell 24).trans lK;go_wp2_with fail;clear k24;go_loopw [14] (λt wr=> ∃ k:Nat,k<=ms.length/\t= G F k/\iH ak 3 4 wr mi k ((ms.take k).map dz.id)/\kC wr (mi+1) (mE (ms.take k)).length (mE (ms.take k))/\au wr w.heap.size 36 aH/\Below w.heap.size w wr) (λt _=>ms.length - (intOf t).toNat)
 case atStart=>exact⟨0,O,rfl,HI0.out,kr.out,HB3.out,hb3⟩
 case round=>
  clear hb3 HI0 kr HB3;obtain⟨k,hk,rfl,hI,hS,hB,hb⟩:=hrel;have HI:=I hI;have HS:=I hS;have HB:=I hB;have hz:=hb.size;clear hI hS hB
  by_cases hlt:k<ms.length
  ·obtain⟨b,o,hA,aX,f0,f1,f2,f3⟩:=dz.at_ (Rd.now HM.out.rd hb) hlt;subst hA;have hmo:=dx.out.ok _ (bP hlt);have hi1:=dx.out.id _ (bP hlt);have hnx:=UE dx.out.ids k (by simpa using hlt);rw[vw,<- List.map_take]at hnx;have HTI:Hid ((ms.take (k+1)).map dz.id=(ms.take k).map dz.id++ [ms[k].id]):=I (by rw[gY hlt,mJ];rfl);have F8:=I (Pk ms k hlt);have WE:Hid ((mE (ms.take k)++(ms[k].left.l++ms[k].right.l)).Nodup):=I (by
    rw[<- Pk ms k hlt];have h:=dx.out.nd;rw[<- Ml (k+1) ms]at h;unfold mE at h |-;rw[Ms]at h;exact(vz.1 h).1)
   have apY:=abr HM.out k;obtain⟨ZL,⟨hl1,hl2⟩,⟨hr1,hr2⟩,_⟩:=HM.out.ok _ (bP hlt);generalize ms[k]=x at*;have rH:=I hl1;have HR1:=I hr1;have HWL:=I hl2;have Ru:=I hr2;clear hl1 hl2 hr1 hr2;obtain⟨id,⟨ll,lA,lc⟩,⟨rl,rA,rc⟩,st⟩:=x;dsimp only[Sl.val]at*;have q1:ll.length<=12:=hmo.ll.2;have q2:rl.length<=12:=hmo.lr.2;have KV:=I (λW hE hl hr=>akk W aH es sA sc bA e q hz0 h21 hE hn hid id ll rl lA rA lc rc st hl hr hmo);clear hmo;generalize mE (ms.take k)=S0 at*;generalize (ms.take k).map dz.id=I0 at*;have hst:=(aD wr.heap.size wr).alloc (aC _) (U #[G F id,T lA ll.length lc,T rA rl.length rc,G F st] 58);have HX:=I (au.new wr 58 #[G F id,T lA ll.length lc,T rA rl.length rc,G F st]);have eP:=I (fw.step HS.out hst);have HI1:=I (HI.out.step hst);have HB1:=I (HB.out.step hst);have hb1:=ay hb hst;clear hst HS HI HB;go_upto_region 5 with fail
   generalize hex:wr.heap.size=mx at*;have ZG:w.heap.size<=mx:=O;clear hex;generalize wr.alloc (U #[G F id,T lA ll.length lc,T rA rl.length rc,G F st] 58)=wq at*;clear f0 f1 f2 f3;have x0:wq.cell? ⟨mx,0,J⟩=N (G F id):=HX.out.cell 0;have x1:wq.cell? ⟨mx,1,J⟩=N (T lA ll.length lc):=HX.out.cell 1;have x2:wq.cell? ⟨mx,2,J⟩=N (T rA rl.length rc):=HX.out.cell 2;have x3:wq.cell? ⟨mx,3,J⟩=N (G F st):=HX.out.cell 3;have hrg:wq.rangeAt w.heap.size 0 aH.toList:=Ag HB1.out;have d1:decide (id<1)=ag:=iw O;have Zc:=HI1.out.look (t:=98) dh iX wR (uY _) ZL;rw[iw hnx]at Zc;go_upto_region 7 with (first
    |(refine LX rfl 36 (.tmp 1) rfl w.heap.size 0 rfl aH hrg jB 27 h27 hz0 ?_)
    |(go_at_call 32;refine(KV.out wq (HE.out.step hb1) ⟨Rd.now rH.out.1 hb1⟩ ⟨Rd.now HR1.out.1 hb1⟩).mono ?_;rintro r w5 ⟨rfl,ah⟩;have hb5:=ay hb1 ah;have gB:=I (HB1.out.step ah);have gN:=I (HX.out.step ah);have DV:=I (HI1.out.step ah);have Jk:=I (fw.step eP.out ah);clear ah))
   clear x0 x1 x2 x3 hrg Zc HI1 eP HB1 HX hb1;have x0:w5.cell? ⟨mx,0,J⟩=N (G F id):=gN.out.cell 0;have EI:=DV.out;have hS5:=Jk.out;unfold kC at hS5;go_upto_region 8 with (at_mapUpdate;refine Vo rfl _ _ _ 98 rfl dh iX wR EI fQ id ZL rfl rfl rfl ?_;intro w6 Ou iE;have nY:=hS5.kept iE aL;have GJ:=gB.out.grown iE (λe=>by injection e with e;exact EI.lI gB.out e.symm);have GN:=gN.out.grown iE (λe=>by injection e with e;exact EI.lI gN.out e.symm);have hb6:Below w.heap.size w w6:=ni hb5 iE hb5.size (λj hj=>by injection hj with hj;omega);clear iE x0 EI hS5)
   clear DV Jk gB gN hb5;have Wm:Hid (iH ak 3 4 w6 mi (k+1) ((ms.take (k+1)).map dz.id)):=I (by rw[HTI.out];exact Ou);have WU:=I nY;have mK:=I GJ;have Gi:=I GN;clear Ou nY GJ GN;have x1:w6.cell? ⟨mx,1,J⟩=N (T lA ll.length lc):=Gi.out.cell 1;have x2:w6.cell? ⟨mx,2,J⟩=N (T rA rl.length rc):=Gi.out.cell 2;obtain⟨C,hC⟩: ∃ C,Hid (C=ll++rl):=⟨_,I rfl⟩;have xN:=(λg gc gt W1 hg hb=>Si ll rl lA rA lc rc g gc gt W1 hg (Rd.now rH.out.1 hb) (Rd.now HR1.out.1 hb) O O);have eH:=WE.out;have zU:=F8.out;rw[<- hC.out]at xN eH zU;have Aa:Hid (∀ x∈C,Wf x.entry/\Wf x.line):=I (λx hx=>by
    rw[hC.out]at hx
    rcases il.1 hx with h|h
    ·exact HWL.out x h
    ·exact Ru.out x h)
   have KC:=I xN;have HN:=I eH;have adi:=I zU;have SX:C.length<=24:=by rw[hC.out,fK];omega
   clear xN eH zU WE F8;have hst:=hb6.alloc hb6.size (U #[T lA ll.length lc,T rA rl.length rc] 54);have HG:=I (au.new w6 54 #[T lA ll.length lc,T rA rl.length rc]);have Ee:=I (fw.alloc WU.out (U #[T lA ll.length lc,T rA rl.length rc] 54));have M8:=I (Wm.out.alloc (U #[T lA ll.length lc,T rA rl.length rc] 54));have lZ:=I (mK.out.alloc (U #[T lA ll.length lc,T rA rl.length rc] 54));go_wp2_with (go_at_call 33;refine(KC.out _ _ _ _ HG.out hst).mono ?_;rintro e w8 ⟨A3,c3,rfl,ho3,ah⟩;have gQ:=ay hst ah;have Ji:=I ho3.lies.1;have WV:=I (fw.step Ee.out ah);have Wn:=I (M8.out.step ah);have sZ:=I (lZ.out.step ah);clear ah ho3);clear HG WU Ee Wm M8 mK lZ Gi hb6 hst KC x1 x2;go_loopw [43] (λt wr=> ∃ j:Nat,j<=C.length/\t= G F j/\kC wr (mi+1) (S0++C.take j).length (S0++C.take j)/\iH ak 3 4 wr mi (k+1) ((ms.take (k+1)).map dz.id)/\au wr w.heap.size 36 aH/\Rd wr wr.heap.size 2 A3 C.length (cellsOf aO.cells C)/\Below w.heap.size w wr) (λt _=>C.length - (intOf t).toNat)
   case atStart=>exact⟨0,O,rfl,by rw[Ql,FU];exact WV.out,Wn.out,sZ.out,Ji.out,gQ⟩
   case round=>
    clear gQ WV Wn sZ Ji hb;obtain⟨j,hj,rfl,hS,hI,hB,EJ,hb⟩:=hrel;have hz2:=hb.size;have HI:=I hI;have HB:=I hB;clear hI hB
    by_cases hlj:j<C.length
    ·obtain⟨b2,o2,hA,aX,f0,f1⟩:=aO.at_ EJ hlj;subst hA;obtain⟨w1,w2⟩:=Aa.out _ (bP hlj);have nP:Hid (S0++C.take (j+1)=(S0++C.take j)++ [C[j]]):=I (by rw[gY hlj,Qm]);have xE:Hid (C[j] ∉ S0++C.take j):=I (by
      have h:=UE HN.out (S0.length+j) (by rw[fK];omega);rw[List.getElem_append_right O,List.take_append]at h;have e1:S0.length+j - S0.length=j:=O;have e2:S0.take (S0.length+j)=S0:=kS O;simp only[e1,e2]at h;exact h)
     have hS2:(S0++C.take j).length<=2000*k+24:=by rw[fK,jR];omega
     generalize S0++C.take j=S at*;generalize C[j]=x at*;have hno:=abq xE.out;obtain⟨kl,hkl⟩:=Dj (r:=x) w1 w2;have HH:=I (LC S x);have jm:=I (LF S x);obtain⟨x0,x1⟩:=x;have hst:=(aD wr.heap.size wr).alloc (aC _) (U #[G F x0,G F x1] 70);have hS1:=fw.step hS hst;have HIs:=I (HI.out.step hst);have VT:=I (HB.out.step hst);have hb1:=ay hb hst;have oI:=I (Rd.now EJ hst);have iO:=hS1.look (t:=99) uk iX Bn (uY _) hkl;rw[hno]at iO;unfold jK at hkl HH jm iO;dsimp only at*;clear hst hS w1 w2 EJ hno xE HI HB;unfold kC at*;go_wp2_with (at_mapUpdate;refine Bf (mV (S++ [⟨x0,x1⟩])) rfl _ _ _ 99 rfl uk iX Bn hS1 fQ (az #[G F x0,G F x1]) kl ae hkl rfl rfl rfl HH.out (λu lu _ hu=>jm.out u hu) ?_;intro w6 nY iE;have Kj:=(oI.out.past iE hS1.isMap).more iE.size;have Ou:=HIs.out.kept iE aL;have GJ:=VT.out.grown iE (λe=>by injection e with e;exact hS1.lI VT.out e.symm);have hb6:Below w.heap.size w w6:=ni hb1 iE hb1.size (λj hj=>by injection hj with hj;omega);clear iE hS1 iO);go_roundw
     case rel=>exact⟨j+1,O,by go_num,by rw[nP.out,fK,ow];exact nY,Ou,GJ,Kj,hb6⟩
     case measure=>simp[intOf];omega
    ·have sG:C.take j=C:=kS O;have gK:Hid (kC wr (mi+1) (mE (ms.take (k+1))).length (mE (ms.take (k+1)))):=I (by rw[sG]at hS;rw[adi.out];exact hS);clear hS sG;go_wp2_with fail;go_roundw
     case rel=>exact⟨k+1,O,by go_num,HI.out,gK.out,HB.out,hb⟩
     case measure=>simp[intOf];omega
  ·have k24:wr.cell? ⟨w.heap.size,24,J⟩=N (T mA ms.length mc):=(HB.out.cell 24).trans lK;have hd:decide ((ms.length:Int)<=300)=ae:=kK O;go_wp2_with fail;go_ret;exact⟨rfl,hb⟩
end
namespace Wh
def rT (E:It.Env) (el:List aY) (es:List aI) (bA e q:Int) (o:bH):Prop:=pX es bA e q o.ref/\El.RX E el es o
def iP (out:List dK) (k:Nat):List dz:=match out with
 | []=> []
 |p::t=>⟨(k:Int)+1,p.left,p.right,4⟩::iP t (k+1)
theorem Lm (out:List dK) (k:Nat):(iP out k).length=out.length:=by
 induction out generalizing k with
 |nil=>rfl
 |cons p t ih=>simp[iP,ih]
theorem Fa {out:List dK} {k:Nat} {m:dz} (h:m∈iP out k):(k:Int)+1<=m.id/\m.state=4/\ ∃ p∈out,m.left=p.left/\m.right=p.right:=by
 induction out generalizing k with
 |nil=>simp[iP]at h
 |cons p t ih=>
  rcases fT.1 h with rfl|h
  ·exact⟨by dsimp only;omega,rfl,p,aL,rfl,rfl⟩
  ·obtain⟨h1,h2,q,h3,h4⟩:=ih h;exact⟨by omega,h2,q,by simp[h3],h4⟩
theorem akz (out:List dK) (k:Nat):((iP out k).map dz.id).Nodup:=by
 induction out generalizing k with
 |nil=>simp[iP]
 |cons p t ih=>
  simp only[iP,vv,wQ];refine⟨λh=> ?_,ih _⟩;obtain⟨m,hm,e⟩:=iW.1 h;have:=(Fa hm).1;omega
theorem aaO (out:List dK) (k:Nat):mE (iP out k)=out.flatMap λp=>p.left.l++p.right.l:=by
 induction out generalizing k with
 |nil=>rfl
 |cons p t ih=>simp only[iP,mE,Qb]at ih |-;rw[ih]
theorem akx (out:List dK) (i:Nat) (h:i<out.length):(iP out 0)[i]? =N ⟨(i:Int)+1,out[i].left,out[i].right,4⟩:=by
 have key: ∀ (out:List dK) (k i:Nat) (h:i<out.length),(iP out k)[i]? =N ⟨((k+i:Nat):Int)+1,out[i].left,out[i].right,4⟩:=by
  intro out
  induction out with
  |nil=>intro k i h;simp at h
  |cons p t ih=>
   intro k i h
   cases i with
   |zero=>simp[iP]
   |succ i=>
    simp only[iP,List.getElem?_cons_succ,Bh];rw[ih (k+1) i (by simpa using h),show k+1+i=k+(i+1) from O]
 have:=key out 0 i h
 rwa [nN]at this
variable {E:It.Env} {el:List aY} {es:List aI} {bA e q aZ:Int} {L R:List bH} {u v:List Bool} {out:List dK}
theorem agW {α:Type} {f g:α->List aO} {l:List α} (h1:(l.flatMap f).Nodup) (h2:(l.flatMap g).Nodup) (h: ∀ x∈l,∀ y∈l,∀ a∈f x,∀ b∈g y,a≠b):(l.flatMap λx=>f x++g x).Nodup:=by
 induction l with
 |nil=>simp
 |cons x l ih=>
  simp only[Qb]at h1 h2 |-;rw[vz]at h1 h2;rw[vz];refine⟨?_,ih h1.2.1 h2.2.1 (λa ha b hb=>h a (by simp[ha]) b (by simp[hb])),?_⟩
  ·rw[vz];exact⟨h1.1,h2.1,λa ha b hb=>h x aL x aL a ha b hb⟩
  ·intro a ha b hb;obtain⟨y,hy,hb⟩:=FN.1 hb
   rcases il.1 ha with ha|ha<;>rcases il.1 hb with hb|hb
   ·exact h1.2.2 a ha b (FN.2 ⟨y,hy,hb⟩)
   ·exact h x aL y (by simp[hy]) a ha b hb
   ·exact λe=>h y (by simp[hy]) x aL b hb a ha e.symm
   ·exact h2.2.2 a ha b (FN.2 ⟨y,hy,hb⟩)
theorem aj6 (hn:(es.map aI.id).Nodup) (hne:e≠q) {a b:aO} (ha:pX es bA e q a) (hb:pX es bA q e b):a≠b:=by
 rintro rfl;obtain⟨y,hy,j,hj,h1,_,h2,_⟩:=ha;obtain⟨y2,hy2,j2,hj2,h3,_,h4,_⟩:=hb;rw[h1]at h3;injection h3 with h3 _
 obtain rfl:=El.YA hn hy hy2 h3;exact hne (h2.symm.trans h4)
theorem LK (hI:Mt.Inv L R aZ u v (Mt.nJ out)) (hL: ∀ o∈L,rT E el es bA e q o) (hR: ∀ o∈R,rT E el es bA q e o) {p:dK} (hp:p∈out):
 (∀ r∈p.left.l,(∃ o∈L,o.ref=r)/\pX es bA e q r)/\(∀ r∈p.right.l,(∃ o∈R,o.ref=r)/\pX es bA q e r):=by
 have hp':(p.left.l,p.right.l)∈Mt.nJ out:=iW.2 ⟨p,hp,rfl⟩;refine⟨λr hr=> ?_,λr hr=> ?_⟩
 ·obtain⟨i,hi,h1,_⟩:=hI.inl _ hp' r hr;exact⟨⟨L[i],bP _,h1⟩,h1 ▸ (hL _ (bP _)).1⟩
 ·obtain⟨i,hi,h1,_⟩:=hI.inr _ hp' r hr;exact⟨⟨R[i],bP _,h1⟩,h1 ▸ (hR _ (bP _)).1⟩
theorem akv (hn:(es.map aI.id).Nodup) (hne:e≠q) (hl:L.length<=300) (hI:Mt.Inv L R aZ u v (Mt.nJ out)) (hL: ∀ o∈L,rT E el es bA e q o) (hR: ∀ o∈R,rT E el es bA q e o):RU es bA e q (iP out 0):=by
 have TH:(out.flatMap λp=>p.left.l++p.right.l).Nodup:=by
  refine agW (f:=λp:dK=>p.left.l) (g:=λp:dK=>p.right.l) ?_ ?_ ?_
  ·have:=hI.G9;unfold Mt.nJ at this;rwa [Qc]at this
  ·have:=hI.OX;unfold Mt.nJ at this;rwa [Qc]at this
  ·intro x hx y hy a ha b hb;exact aj6 hn hne ((LK hI hL hR hx).1 a ha).2 ((LK hI hL hR hy).2 b hb).2
 refine⟨λm hm=> ?_,λm hm=> ?_,akz _ _,by rw[aaO];exact TH,?_⟩
 ·obtain⟨_,h2,p,h3,h4,h5⟩:=Fa hm;have hs:=LK hI hL hR h3;have hne2:=hI.ne (p.left.l,p.right.l) (iW.2 ⟨p,h3,rfl⟩);refine⟨hne,λr hr=>(hs.1 r (h4 ▸ hr)).2,λr hr=>(hs.2 r (h5 ▸ hr)).2,by rw[h4];exact hne2.1,by rw[h5];exact hne2.2,O,?_⟩;rw[h4,h5];obtain⟨a,b,rfl⟩:=List.append_of_mem h3;rw[Ms,Qb]at TH;exact(vz.1 (vz.1 TH).2.1).1
 ·have:=(Fa hm).1;omega
 ·rw[Lm];have:=hI.few;unfold Mt.nJ at this;rw[pM]at this;omega
theorem amM (hn:(es.map aI.id).Nodup) (hI:Mt.Inv L R aZ u v (Mt.nJ out)) (hL: ∀ o∈L,rT E el es bA e q o) (hR: ∀ o∈R,rT E el es bA q e o) {items:List bI} (hit: ∀ i∈items,El.vY E el es i) {fb:Bool} {last acq:Int}
 {x:Int×List bI} (hx:x∈El.all items fb last acq (iP out 0)):El.lQ x.2<=aZ/\ -El.lQ x.2<=aZ:=by
 unfold El.all at hx;obtain⟨m,hm,rfl⟩:=iW.1 hx;obtain⟨hm,hh⟩:=vF.1 hm;unfold El.hit at hh;simp only[bR,ng]at hh;obtain⟨_,_,p,h3,h4,h5⟩:=Fa hm;have hs:=LK hI hL hR h3;have hsum:=hI.sum (p.left.l,p.right.l) (iW.2 ⟨p,h3,rfl⟩);dsimp only at hsum |-;unfold El.A8 at hh |-;rw[h4,h5]at hh |-;rw[mJ,El.acb,El.Va hn hit (λo ho=>(hL o ho).2) last acq p.left.l (λr hr=>(hs.1 r hr).1) (λr hr=>hh.2 r (by simp[hr])),
  El.Va hn hit (λo ho=>(hR o ho).2) last acq p.right.l (λr hr=>(hs.2 r hr).1) (λr hr=>hh.2 r (by simp[hr]))]
 exact hsum
end Wh
end Go.Proofs.YtbedbfdhfokifaaGreat
