/- Part of the proof of WholeMatching. -/
import Derived.Test.YtbedbfdhfokifaaGreatJAC
import Derived.Test.YtbedbfdhfokifaaGreatJAE
import Derived.Test.YtbedbfdhfokifaaGreatJAI
import Derived.Test.YtbedbfdhfokifaaGreatJAJ
import Derived.Test.YtbedbfdhfokifaaGreatJAK
import Derived.Lib.SliceRun
import Derived.Deep.DeepCutAuto
import Derived.BigRegion
import Derived.RangeFuncNested
import Derived.RangeFuncBound
import Derived.RangeFuncCalls
import Derived.RangeFuncLeaves
import Derived.RangeFuncBox
import Derived.Shelf.Abstract
import Derived.Shelf.RegionOpen
import Derived.OwnWalkIn
import Derived.TacticsInMore
import Derived.LoopNIn
import Derived.LoopIn
namespace Go.Proofs.YtbedbfdhfokifaaGreat
set_option maxRecDepth 100000
set_option maxHeartbeats 16000000
set_option linter.unusedVariables false
set_option linter.unusedSimpArgs false
open _root_.Bool renaming true->ae,false->ag
open Go renaming World->Z,Calls->aF,Addr->aG,undef->aV,CallsIn->aaM,Value->aj,Ending->eG
open Go.Ending renaming returned->bM
open Go.Fence renaming wide->lC
open Go.IntKind renaming i64->F
open Go.Lit renaming int->jQ
open Go.Obj renaming cells->U
open Go.Proofs.Tryz renaming prog->ak
open Go.Value renaming int->G,slice->T,bool->aA,pointer->aN,string->av,agg->az,tuple->bG
open _root_.Option renaming none->J,some->N
open Go.RowKit
theorem Cm (n:Int) (w:Z):aF ak 84 #[G F n] w λe w'=>e= bM (aA (Gr.eZ n))/\w=w':=Sv n w
theorem aaD (xn xc:ByteArray) (l1:List Acc) (A1:Option aG) (c1:Nat) (v2:aj) (xj:Bool) (cl:List Acc) (cA:Option aG) (cc:Nat) (f t s:Int) (Lg:Nat) (A2:Option aG) (c2:Nat) (w:Z)
 (h1:Rd w w.heap.size 4 A1 l1.length (Ch.cells l1)) (h2:Rd w w.heap.size 4 cA cl.length (Ch.cells cl)) (hn1:l1.length<=300000) (hn2:cl.length<=300000):
 aF ak 231 #[az #[av xn,av xc,T A1 l1.length c1,T A2 Lg c2,aA xj],T cA cl.length cc,az #[G F f,G F t,G F s]] w (fD (Gr.CZ l1 cl ⟨f,t,s⟩) w):=by
 have H1:=I h1;have H2:=I h2;have HD:Hid (Gr.CZ l1 cl ⟨f,t,s⟩=(Ch.eO l1 f&&(Ch.eO cl t&&(decide ((Ch.bU l1 f).kind=(Ch.bU cl t).kind)&&Gr.eZ s)))):=I rfl;have hb:Below w.heap.size w ((w.alloc (U #[av xn,av xc,T A1 l1.length c1,T A2 Lg c2,aA xj] 179)).alloc (U #[G F f,G F t,G F s] 250)):=by
  have hb:=aD w.heap.size w;exact bC
 have hB0:=au.new (w.alloc (U #[av xn,av xc,T A1 l1.length c1,T A2 Lg c2,aA xj] 179)) 250 #[G F f,G F t,G F s];have e1:(w.alloc (U #[av xn,av xc,T A1 l1.length c1,T A2 Lg c2,aA xj] 179)).heap.size=w.heap.size+1:=aL;rw[e1]at hB0;have HB:=I hB0;clear h1 h2 e1 hB0;generalize Gr.CZ l1 cl ⟨f,t,s⟩=V at*;have K1:=I (λW h=>Gz l1 f A1 c1 W h hn1);have K2:=I (λW h=>Gz cl t cA cc W h hn2);have K3:=I (λW=>Cm s W);generalize Ch.bU l1 f=a1 at*;generalize Ch.eO l1 f=b1 at*;generalize Ch.bU cl t=a2 at*;generalize Ch.eO cl t=b2 at*;generalize Gr.eZ s=d at*;go_enter Tryz.func231,Tryz.ntmps231;go_wp2_with fail;generalize mh:(w.alloc (U #[av xn,av xc,T A1 l1.length c1,T A2 Lg c2,aA xj] 179)).alloc (U #[G F f,G F t,G F s] 250)=W at*;clear mh;refine(K1.out W (Rd.now H1.out hb)).mono ?_;rintro e w2 ⟨rfl,ah⟩;replace hb:=ay hb ah;have HX:=I (au.new w2 212 #[G F a1.code,G F a1.kind,G F a1.basis,G F a1.parent]);have HB2:=I ((HB.out.step ah).alloc (U #[G F a1.code,G F a1.kind,G F a1.basis,G F a1.parent] 212));have f1:(w2.alloc (U #[G F a1.code,G F a1.kind,G F a1.basis,G F a1.parent] 212)).cell? ⟨w.heap.size+1,1,J⟩=N (G F t):=HB2.out.cell 1;have hb1:=hb.alloc hb.size (U #[G F a1.code,G F a1.kind,G F a1.basis,G F a1.parent] 212);clear ah HB;go_wp2_with fail;clear f1;generalize mh:w2.alloc (U #[G F a1.code,G F a1.kind,G F a1.basis,G F a1.parent] 212)=W2 at*;clear mh;refine(K2.out W2 (Rd.now H2.out hb1)).mono ?_;rintro e w3 ⟨rfl,ah⟩;have hb2:=ay hb1 ah;have hX:=(HX.out.step ah).alloc (U #[G F a2.code,G F a2.kind,G F a2.basis,G F a2.parent] 212);have hL:=(HB2.out.step ah).alloc (U #[G F a2.code,G F a2.kind,G F a2.basis,G F a2.parent] 212);have q1:(w3.alloc (U #[G F a2.code,G F a2.kind,G F a2.basis,G F a2.parent] 212)).cell? ⟨w2.heap.size,1,J⟩=N (G F a1.kind):=hX.cell 1;have q2:(w3.alloc (U #[G F a2.code,G F a2.kind,G F a2.basis,G F a2.parent] 212)).cell? ⟨w.heap.size+1,2,J⟩=N (G F s):=hL.cell 2;have hb3:=hb2.alloc hb2.size (U #[G F a2.code,G F a2.kind,G F a2.basis,G F a2.parent] 212);have Bw:=I HD.out;clear hX hL ah HB2 HX
 cases hk:(a1.kind==a2.kind)<;>cases b1<;>cases b2
 all_goals
  go_wp2_with (go_at_call 84;refine((K3.out _)).mono ?_;rintro e w2 ⟨rfl,rfl⟩);go_ret;exact⟨by rw[Bw.out];simp at hk;simp[hk],hb3⟩
section
open Go.Maps (Keyed)
def Lh (a s:Int):aj:= az #[G F a,G F 0,G F s]
open Classical in
noncomputable def wL (L:List bV) (k:Nat) (v:aj):Bool:=decide (∃ x∈L.take k,v=Lh x.from_ x.since)
theorem ajY (L:List bV):wL L 0=λ_=>ag:=by
 funext v
 simp[wL]
theorem ajV (L:List bV) (k:Nat) (h:k<L.length):wL L k (Lh L[k].from_ L[k].since)=Gr.wJ L k:=by
 unfold wL Gr.wJ;rw[getD_lt L k default h,qm];simp only[dm,vG,Lh,aj1,bR,vD]
 constructor
 ·rintro⟨x,hx,h1,-,h2⟩;exact⟨x,hx,h1.symm,h2.symm⟩
 ·rintro⟨x,hx,h1,h2⟩;exact⟨x,hx,h1.symm,trivial,h2.symm⟩
theorem ajW (L:List bV) (k:Nat) (h:k<L.length):wL L (k+1) (Lh L[k].from_ L[k].since)=ae:=by
 unfold wL;rw[gY h];simp only[dm];exact⟨L[k],il.2 (.inr (iJ.2 rfl)),rfl⟩
theorem ajX (L:List bV) (k:Nat) (h:k<L.length) (u:aj) (hu:u≠Lh L[k].from_ L[k].since):wL L (k+1) u=wL L k u:=by
 unfold wL;rw[gY h,qm];simp only[dm,il,iJ]
 constructor
 ·rintro⟨x,hx|rfl,e⟩
  ·exact⟨x,hx,e⟩
  ·exact absurd e hu
 ·rintro⟨x,hx,e⟩;exact⟨x,.inl hx,e⟩
theorem E5 {e c:List Acc} {L:List bV} {k:Nat} (hk:k<L.length) (h:Gr.wK e c L k=ag):Gr.jd e c L=ag:=by
 unfold Gr.jd;rw[show iZ L.length (Gr.wK e c L)=ag from kD hk h];simp
theorem aaP (xn xc:ByteArray) (l1:List Acc) (A1:Option aG) (c1:Nat) (L:List bV) (A2:Option aG) (c2:Nat) (xj:Bool) (cl:List Acc) (cA:Option aG) (cc:Nat) (w:Z)
 (h1:Rd w w.heap.size 4 A1 l1.length (Ch.cells l1)) (h2:Rd w w.heap.size 4 cA cl.length (Ch.cells cl)) (h3:Rd w w.heap.size 3 A2 L.length (cellsOf bV.cells L)) (hn1:l1.length<=300000) (hn2:cl.length<=300000)
 (hw1: ∀ a∈l1,(jQ .i64 a.code).wf=ae) (hw2: ∀ a∈cl,(jQ .i64 a.code).wf=ae) (hw3: ∀ x∈L,Wf x.from_/\Wf x.to/\Wf x.since):
 aF ak 172 #[az #[av xn,av xc,T A1 l1.length c1,T A2 L.length c2,aA xj],T cA cl.length cc] w (fD (Gr.jd l1 cl L) w):=by
 have H1:=I h1;have H2:=I h2;have H3:=I h3;have HW1:=I hw1;have HW2:=I hw2;have HW3:=I hw3;clear h1 h2 h3 hw1 hw2 hw3;have hb:Below w.heap.size w (w.alloc (U #[av xn,av xc,T A1 l1.length c1,T A2 L.length c2,aA xj] 179)):=by
  have hb:=aD w.heap.size w;exact bC
 have HB:=I (au.new w 179 #[av xn,av xc,T A1 l1.length c1,T A2 L.length c2,aA xj]);have hmm:= @rC ak;go_enter Tryz.func172,Tryz.ntmps172
 cases hv1:Ch.mG cl ae
 ·have HE:Hid (Gr.jd l1 cl L=ag):=I (by unfold Gr.jd;rw[hv1];rfl);have uE:=I hv1;clear hv1;go_wp2_with (go_at_call 166;(with_reducible refine(zz cl ae cA cc _ (Rd.now H2.out hb) hn2 HW2.out).mono ?_);rintro e w2 ⟨rfl,hb2⟩;replace hb:=ay hb hb2;rw[uE.out];have hB2:=HB.out.step hb2;have e2:=hB2.cell 2;have e3:=hB2.cell 3);go_ret;exact⟨by rw[HE.out];rfl,hb⟩
 ·have uE:=I hv1
  cases hv2:Ch.mG l1 ag
  ·have HE:Hid (Gr.jd l1 cl L=ag):=I (by unfold Gr.jd;rw[hv1,hv2];rfl);have kW:=I hv2;clear hv1 hv2;go_wp2_with (first|(go_at_call 166;(with_reducible refine(zz cl ae cA cc _ (Rd.now H2.out hb) hn2 HW2.out).mono ?_);rintro e w2 ⟨rfl,hb2⟩;replace hb:=ay hb hb2;rw[uE.out];have hB2:=HB.out.step hb2;have e2:=hB2.cell 2;have e3:=hB2.cell 3)|(go_at_call 166;(with_reducible refine(zz l1 ag A1 c1 _ (Rd.now H1.out hb) hn1 HW1.out).mono ?_);rintro e w3 ⟨rfl,hb3⟩;replace hb:=ay hb hb3;rw[kW.out];have hB3:=hB2.step hb3;have e4:=hB3.cell 3));go_ret;exact⟨by rw[HE.out];rfl,hb⟩
  ·have kW:=I hv2
   by_cases xV:L.length<=400
   ·clear hv1 hv2;go_wp2_with (first|(go_at_call 166;(with_reducible refine(zz cl ae cA cc _ (Rd.now H2.out hb) hn2 HW2.out).mono ?_);rintro e w2 ⟨rfl,hb2⟩;replace hb:=ay hb hb2;rw[uE.out];have hB2:=HB.out.step hb2;have e2:=hB2.cell 2;have e3:=hB2.cell 3)|(go_at_call 166;(with_reducible refine(zz l1 ag A1 c1 _ (Rd.now H1.out hb) hn1 HW1.out).mono ?_);rintro e w3 ⟨rfl,hb3⟩;replace hb:=ay hb hb3;rw[kW.out];have hB3:=hB2.step hb3;have e4:=hB3.cell 3;have e5:(w3.alloc (.map #[] 0)).cell? ⟨w.heap.size,3,J⟩=N (T A2 L.length c2):=(hB3.alloc _).cell 3));have hl3:=hB3.lt;have HB3:=I hB3;clear hB2 hB3 e2 e3 e4 e5;go_loopw [28] (λt wr=> ∃ k:Nat,k<=L.length/\(∀ j,j<k->Gr.wK l1 cl L j=ae)/\t= G F k/\fw ak 250 4 wr w3.heap.size k (wL L k)/\au wr w.heap.size 179 #[av xn,av xc,T A1 l1.length c1,T A2 L.length c2,aA xj]/\Below w.heap.size w wr) (λt _=>L.length - (intOf t).toNat)
    case atStart=>exact⟨0,O,λj h=>O,rfl,by rw[ajY];exact fw.made w3,HB3.out.alloc _,hb.alloc hb.size _⟩
    case round=>
     clear hb HB3;obtain⟨k,hk,hno,rfl,hS,hB,hb⟩:=hrel;have HN:=I hno;have hz:=hb.size;clear hno
     by_cases hlt:k<L.length
     ·obtain⟨b,o,hA,aX,f0,f1,f2⟩:=bV.at_ (Rd.now H3.out hb) hlt;subst hA;obtain⟨q1,q2,q3⟩:=HW3.out _ (bP hlt);have HX:Hid (Gr.wK l1 cl L k=(Gr.CZ l1 cl L[k]&& !Gr.wJ L k)):=I (by unfold Gr.wK;rw[getD_lt L k default hlt]);have eP:=I (ajV L k hlt);have HS2:=I (ajW L k hlt);have gK:=I (ajX L k hlt);generalize L[k]=x at*;obtain⟨f,t,s⟩:=x;dsimp only at*;obtain⟨kl,hkl⟩:=ajZ (a:=f) (b:=0) (c:=s) q1 aJ q3;have iO:=((hS.alloc (U #[G F f,G F t,G F s] 250)).alloc (U #[G F f,G F 0,G F s] 250)).look (t:=315) aar iX Tryz.underlying315 (uY _) hkl;rw[show wL L k (az #[G F f,G F 0,G F s])=Gr.wJ L k from eP.out]at iO;have EH:=(hB.alloc (U #[G F f,G F t,G F s] 250)).alloc (U #[G F f,G F 0,G F s] 250);have e0:=EH.cell 0;have e1:=EH.cell 1;have e2:=EH.cell 2;have e3:=EH.cell 3;have e4:=EH.cell 4;have nH:Below w.heap.size w ((wr.alloc (U #[G F f,G F t,G F s] 250)).alloc (U #[G F f,G F 0,G F s] 250)):=bC;have Te:=au.new (wr.alloc (U #[G F f,G F t,G F s] 250)) 250 #[G F f,G F 0,G F s];have ez:(wr.alloc (U #[G F f,G F t,G F s] 250)).heap.size=wr.heap.size+1:=aL;rw[ez]at Te;have HK:=I Te;have Qv:=I EH;have hSS:=I ((hS.alloc (U #[G F f,G F t,G F s] 250)).alloc (U #[G F f,G F 0,G F s] 250));clear ez Te EH hS hB eP
      cases hbf:Gr.wJ L k
      ·rw[hbf]at iO HX;clear hbf
       cases hv:Gr.CZ l1 cl ⟨f,t,s⟩
       ·have HE:Hid (Gr.jd l1 cl L=ag):=I (E5 hlt (by rw[HX.out,hv];rfl));have HV:=I hv;clear hv;go_wp2_with (go_at_call 231;refine(aaD xn xc l1 A1 c1 (aA ae) xj cl cA cc f t s L.length (N ⟨b,o,J⟩) c2 _ (Rd.now H1.out nH) (Rd.now H2.out nH) hn1 hn2).mono ?_;rintro e w4 ⟨rfl,ah⟩;rw[HV.out];have hb4:=ay nH ah;clear ah);go_ret;exact⟨by rw[HE.out];rfl,hb4⟩
       ·have HO:Hid (Gr.wK l1 cl L k=ae):=I (by rw[HX.out,hv];rfl);have HV:=I hv;clear hv;go_wp2_with (first
         |(go_at_call 231;refine(aaD xn xc l1 A1 c1 (aA ae) xj cl cA cc f t s L.length (N ⟨b,o,J⟩) c2 _ (Rd.now H1.out nH) (Rd.now H2.out nH) hn1 hn2).mono ?_;rintro e w4 ⟨rfl,ah⟩;rw[HV.out];have hb4:=ay nH ah;have Ox:=hSS.out.step ah;have jS:=I (Qv.out.step ah);have hK4:=HK.out.step ah;have k0:=hK4.cell 0;have k1:=hK4.cell 1;have k2:=hK4.cell 2;clear ah e0 e1 e2 e3 e4)
         |(at_mapUpdate;refine Bf (wL L (k+1)) rfl _ _ _ 315 rfl aar iX Tryz.underlying315 Ox fQ (az #[G F f,G F 0,G F s]) kl ae hkl rfl rfl rfl HS2.out (λu lu _ hu=>gK.out u hu) ?_;intro w5 hS5 hg5))
        have hbz:=hb4.size;have SQ:=jS.out.grown hg5 bL;have hb5:Below w.heap.size w w5:=ni hb4 hg5 O (λj hj=>by injection hj with hj;omega);clear hg5 Ox hK4 k0 k1 k2;go_wp2_with fail;go_roundw
        case rel=>
         refine⟨k+1,O,λj hj=> ?_,by go_num,hS5,SQ,hb5⟩
         by_cases e:j=k
         ·subst e;exact HO.out
         ·exact HN.out j O
        case measure=>simp[intOf];omega
      ·rw[hbf]at iO HX;have HE:Hid (Gr.jd l1 cl L=ag):=I (E5 hlt (by rw[HX.out];simp));clear hbf;go_wp2_with fail;go_ret;exact⟨by rw[HE.out];rfl,nH⟩
     ·have HE:Hid (Gr.jd l1 cl L=ae):=I (by unfold Gr.jd;rw[uE.out,kW.out,nT (λj hj=>HN.out j O)];simp[xV]);go_wp2_with fail;go_ret;exact⟨by rw[HE.out];rfl,hb⟩
   ·have HE:Hid (Gr.jd l1 cl L=ag):=I (by unfold Gr.jd;rw[hv1,hv2];simp[xV]);clear hv1 hv2;go_wp2_with (first|(go_at_call 166;(with_reducible refine(zz cl ae cA cc _ (Rd.now H2.out hb) hn2 HW2.out).mono ?_);rintro e w2 ⟨rfl,hb2⟩;replace hb:=ay hb hb2;rw[uE.out];have hB2:=HB.out.step hb2;have e2:=hB2.cell 2;have e3:=hB2.cell 3)|(go_at_call 166;(with_reducible refine(zz l1 ag A1 c1 _ (Rd.now H1.out hb) hn1 HW1.out).mono ?_);rintro e w3 ⟨rfl,hb3⟩;replace hb:=ay hb hb3;rw[kW.out];have hB3:=hB2.step hb3;have e4:=hB3.cell 3));go_ret;exact⟨by rw[HE.out];rfl,hb⟩
end
theorem amF (n:Int) (w:Z):aF ak 55 #[G F n] w λe w'=>e= bM (aA (Gr.eZ n))/\w=w':=JP n w
theorem Bg (l:List Acc) (g:Bool) (A:Option aG) (cap:Nat) (w:Z) (hr:Rd w w.heap.size 4 A l.length (Ch.cells l)) (hn:l.length<=300000):
 aF ak 193 #[T A l.length cap,aA g] w (fD (Ch.mG l g) w):=by
 rw[Ch.valid_eq];exact anJ l g A cap w hr hn
theorem aco (l:List Acc) (c:Int) (A:Option aG) (cap:Nat) (w:Z) (hr:Rd w w.heap.size 4 A l.length (Ch.cells l)) (hn:l.length<=300000):
 aF ak 200 #[T A l.length cap,G F c] w (λe w'=>e= .returned (bG #[az #[G F (Ch.bU l c).code,G F (Ch.bU l c).kind,G F (Ch.bU l c).basis,G F (Ch.bU l c).parent],aA (Ch.eO l c)])/\Below w.heap.size w w'):=
 (LG l c A cap w hr hn).mono (λ_ _ h=>h)
theorem ajU {L:List bV} {k j:Nat} (hk:k<L.length) (hj:j<k) (h1:(L[j]'O).from_=L[k].from_) (h2:(L[j]'O).since=L[k].since):Gr.wJ L k=ae:=by
 unfold Gr.wJ;rw[getD_lt L k default hk,vG];refine⟨L[j]'O,?_,by rw[h1,h2];simp⟩;rw[Dy];exact⟨j,O,rfl⟩
theorem ajT {L:List bV} {k:Nat} (hk:k<L.length) (h: ∀ j (hj:j<k),¬ ((L[j]'O).from_=L[k].from_/\(L[j]'O).since=L[k].since)):Gr.wJ L k=ag:=by
 unfold Gr.wJ;rw[getD_lt L k default hk,uy];intro x hx;rw[Dy]at hx;obtain⟨j,hj,rfl⟩:=hx;have:=h j O
 simpa using this
theorem abJ (xn xc:ByteArray) (l1:List Acc) (A1:Option aG) (c1:Nat) (L:List bV) (A2:Option aG) (c2:Nat) (xj:Bool) (cl:List Acc) (cA:Option aG) (cc:Nat) (w:Z)
 (h1:Rd w w.heap.size 4 A1 l1.length (Ch.cells l1)) (h2:Rd w w.heap.size 4 cA cl.length (Ch.cells cl)) (h3:Rd w w.heap.size 3 A2 L.length (cellsOf bV.cells L)) (hn1:l1.length<=300000) (hn2:cl.length<=300000):
 aF ak 198 #[az #[av xn,av xc,T A1 l1.length c1,T A2 L.length c2,aA xj],T cA cl.length cc] w (fD (Gr.jd l1 cl L) w):=by
 have H1:=I h1;have H2:=I h2;have H3:=I h3;clear h1 h2 h3;have hb:Below w.heap.size w (w.alloc (U #[av xn,av xc,T A1 l1.length c1,T A2 L.length c2,aA xj] 179)):=by
  have hb:=aD w.heap.size w;exact bC
 have HB:=I (au.new w 179 #[av xn,av xc,T A1 l1.length c1,T A2 L.length c2,aA xj]);go_enter Tryz.func198,Tryz.ntmps198
 cases hv1:Ch.mG cl ae
 ·have HE:Hid (Gr.jd l1 cl L=ag):=I (by unfold Gr.jd;rw[hv1];rfl);have uE:=I hv1;clear hv1;go_wp2_with
   (go_at_call 193;(with_reducible refine(Bg cl ae cA cc _ (Rd.now H2.out hb) hn2).mono ?_);rintro e w2 ⟨rfl,hb2⟩;replace hb:=ay hb hb2;rw[uE.out];have hB2:=HB.out.step hb2;have e2:=hB2.cell 2;have e3:=hB2.cell 3)
  go_ret;exact⟨by rw[HE.out];rfl,hb⟩
 ·have uE:=I hv1
  cases hv2:Ch.mG l1 ag
  ·have HE:Hid (Gr.jd l1 cl L=ag):=I (by unfold Gr.jd;rw[hv1,hv2];rfl);have kW:=I hv2;clear hv1 hv2;go_wp2_with (first
    |(go_at_call 193;(with_reducible refine(Bg cl ae cA cc _ (Rd.now H2.out hb) hn2).mono ?_);rintro e w2 ⟨rfl,hb2⟩;replace hb:=ay hb hb2;rw[uE.out];have hB2:=HB.out.step hb2;have e2:=hB2.cell 2;have e3:=hB2.cell 3)
    |(go_at_call 193;(with_reducible refine(Bg l1 ag A1 c1 _ (Rd.now H1.out hb) hn1).mono ?_);rintro e w3 ⟨rfl,hb3⟩;replace hb:=ay hb hb3;rw[kW.out];have hB3:=hB2.step hb3;have e4:=hB3.cell 3))
   go_ret;exact⟨by rw[HE.out];rfl,hb⟩
  ·have kW:=I hv2
   by_cases xV:L.length<=400
   ·clear hv1 hv2;go_wp2_with (first
     |(go_at_call 193;(with_reducible refine(Bg cl ae cA cc _ (Rd.now H2.out hb) hn2).mono ?_);rintro e w2 ⟨rfl,hb2⟩;replace hb:=ay hb hb2;rw[uE.out];have hB2:=HB.out.step hb2;have e2:=hB2.cell 2;have e3:=hB2.cell 3)
     |(go_at_call 193;(with_reducible refine(Bg l1 ag A1 c1 _ (Rd.now H1.out hb) hn1).mono ?_);rintro e w3 ⟨rfl,hb3⟩;replace hb:=ay hb hb3;rw[kW.out];have hB3:=hB2.step hb3;have e4:=hB3.cell 3))
    have HB3:=I hB3;clear hB2 hB3 e2 e3 e4 HB hb2 hb3;go_loopw [5] (λt wr=> ∃ k:Nat,k<=L.length/\(∀ j,j<k->Gr.wK l1 cl L j=ae)/\t= G F k/\Below w3.heap.size w3 wr) (λt _=>L.length - (intOf t).toNat)
    case atStart=>exact⟨0,O,λj h=>O,rfl,aD _ _⟩
    case round=>
     obtain⟨k,hk,hno,rfl,hbr⟩:=hrel;obtain⟨wo,rfl⟩: ∃ wo:Z,wo=wr:=⟨_,rfl⟩;have HN:=I hno;clear hno;have hB:=HB3.out.step hbr;have hbw:=ay hb hbr;have hz:=hbw.size;have e3:wo.cell? ⟨w.heap.size,3,J⟩=N (T A2 L.length c2):=hB.cell 3
     by_cases hlt:k<L.length
     ·obtain⟨b,o,hA,aX,f0,f1,f2⟩:=bV.at_ (Rd.now H3.out hbw) hlt;subst hA;have HX:Hid (Gr.wK l1 cl L k=(Gr.CZ l1 cl L[k]&& !Gr.wJ L k)):=I (by unfold Gr.wK;rw[getD_lt L k default hlt]);generalize hx:L[k]=x at*;obtain⟨f,t,s⟩:=x;have mg:=I hx;clear hx;dsimp only at*;have HD:Hid (Gr.CZ l1 cl ⟨f,t,s⟩=(Ch.eO l1 f&&(Ch.eO cl t&&(decide ((Ch.bU l1 f).kind=(Ch.bU cl t).kind)&&Gr.eZ s)))):=I rfl;have K1:=I (λW h=>aco l1 f A1 c1 W h hn1);have K2:=I (λW h=>aco cl t cA cc W h hn2);have K3:=I (λW=>amF s W);generalize Ch.bU l1 f=a1 at*;generalize Ch.eO l1 f=b1 at*;generalize Ch.bU cl t=a2 at*;generalize Ch.eO cl t=b2 at*;generalize Gr.eZ s=dv at*;have hB1:=hB.alloc (U #[G F f,G F t,G F s] 250);have e2:(wo.alloc (U #[G F f,G F t,G F s] 250)).cell? ⟨w.heap.size,2,J⟩=N (T A1 l1.length c1):=hB1.cell 2;have HB1:=I hB1;have rH:=I (au.new wo 250 #[G F f,G F t,G F s]);have hb4:Below w.heap.size w (wo.alloc (U #[G F f,G F t,G F s] 250)):=hbw.alloc hz _;have Ty:Below w3.heap.size w3 (wo.alloc (U #[G F f,G F t,G F s] 250)):=hbr.alloc hbr.size _;clear hB hB1;go_wp2_with fail;clear e2 e3 f0 f1 f2;generalize mh:wo.alloc (U #[G F f,G F t,G F s] 250)=W at*;clear mh;refine(K1.out W (Rd.now H1.out hb4)).mono ?_;rintro e w5 ⟨rfl,ah⟩;have hb5:=(ay hb4 ah).alloc (ay hb4 ah).size (U #[G F a1.code,G F a1.kind,G F a1.basis,G F a1.parent] 212);have Tz:=(ay Ty ah).alloc (ay Ty ah).size (U #[G F a1.code,G F a1.kind,G F a1.basis,G F a1.parent] 212);have gB:=I ((HB1.out.step ah).alloc (U #[G F a1.code,G F a1.kind,G F a1.basis,G F a1.parent] 212));have qH:=I ((rH.out.step ah).alloc (U #[G F a1.code,G F a1.kind,G F a1.basis,G F a1.parent] 212));have VQ:=I (au.new w5 212 #[G F a1.code,G F a1.kind,G F a1.basis,G F a1.parent]);have g1:(w5.alloc (U #[G F a1.code,G F a1.kind,G F a1.basis,G F a1.parent] 212)).cell? ⟨wo.heap.size,1,J⟩=N (G F t):=qH.out.cell 1;clear ah HB1 rH hb4 Ty;go_wp2_with fail;clear g1;generalize mh:w5.alloc (U #[G F a1.code,G F a1.kind,G F a1.basis,G F a1.parent] 212)=W5 at*;clear mh;refine(K2.out W5 (Rd.now H2.out hb5)).mono ?_;rintro e w6 ⟨rfl,ah⟩;have gQ:=(ay hb5 ah).alloc (ay hb5 ah).size (U #[G F a2.code,G F a2.kind,G F a2.basis,G F a2.parent] 212);have ah3:=(ay Tz ah).alloc (ay Tz ah).size (U #[G F a2.code,G F a2.kind,G F a2.basis,G F a2.parent] 212);have sZ:=I ((gB.out.step ah).alloc (U #[G F a2.code,G F a2.kind,G F a2.basis,G F a2.parent] 212));have zR:=I ((qH.out.step ah).alloc (U #[G F a2.code,G F a2.kind,G F a2.basis,G F a2.parent] 212));have VR:=(VQ.out.step ah).alloc (U #[G F a2.code,G F a2.kind,G F a2.basis,G F a2.parent] 212);have g2:(w6.alloc (U #[G F a2.code,G F a2.kind,G F a2.basis,G F a2.parent] 212)).cell? ⟨wo.heap.size,2,J⟩=N (G F s):=zR.out.cell 2;have g3:(w6.alloc (U #[G F a2.code,G F a2.kind,G F a2.basis,G F a2.parent] 212)).cell? ⟨w5.heap.size,1,J⟩=N (G F a1.kind):=VR.cell 1;clear ah gB qH VQ hb5 Tz VR;have Bw:=I HD.out;clear HD
      cases b1
      ·have hk3:True:=trivial;have HE:Hid (Gr.jd l1 cl L=ag):=I (E5 hlt (by rw[HX.out,Bw.out];(try simp at hk3);simp[hk3]));go_wp2_with (go_at_call 55;refine((K3.out _)).mono ?_;rintro e w2 ⟨rfl,rfl⟩);go_ret;exact⟨by rw[HE.out];rfl,gQ⟩
      ·cases b2
       ·have hk3:True:=trivial;have HE:Hid (Gr.jd l1 cl L=ag):=I (E5 hlt (by rw[HX.out,Bw.out];(try simp at hk3);simp[hk3]));go_wp2_with (go_at_call 55;refine((K3.out _)).mono ?_;rintro e w2 ⟨rfl,rfl⟩);go_ret;exact⟨by rw[HE.out];rfl,gQ⟩
       ·cases hk3:(a1.kind !=a2.kind)
        ·cases dv
         ·have HE:Hid (Gr.jd l1 cl L=ag):=I (E5 hlt (by rw[HX.out,Bw.out];(try simp at hk3);simp[hk3]));go_wp2_with (go_at_call 55;refine((K3.out _)).mono ?_;rintro e w2 ⟨rfl,rfl⟩);go_ret;exact⟨by rw[HE.out];rfl,gQ⟩
         ·have HO:Hid (Gr.wK l1 cl L k= !Gr.wJ L k):=I (by rw[HX.out,Bw.out];simp at hk3;simp[hk3]);go_wp2_with (go_at_call 55;refine((K3.out _)).mono ?_;rintro e w2 ⟨rfl,rfl⟩);clear g2 g3;generalize mh:w6.alloc (U #[G F a2.code,G F a2.kind,G F a2.basis,G F a2.parent] 212)=W6 at*;clear mh hk3 HX Bw K1 K2 K3;have QZ:Hid (wo.heap.size<W6.heap.size):=I zR.out.lt;have DN:Hid (w.heap.size<W6.heap.size):=I sZ.out.lt;go_loopw [11] (λt wr=> ∃ j:Nat,j<=k/\(∀ i (h:i<k),i<j-> ¬ ((L[i]'O).from_=L[k].from_/\(L[i]'O).since=L[k].since))/\t= G F j/\Below W6.heap.size W6 wr) (λt _=>k - (intOf t).toNat)
          case atStart=>exact⟨0,O,λi _ h=>O,rfl,aD _ _⟩
          case round=>
           obtain⟨j,hj,CV,rfl,hbi⟩:=hrel;have yP:=I CV;clear CV
           by_cases hjk:j<k
           ·have hjl:j<L.length:=O;have hbz:=hbi.size;obtain⟨b',o',hA',tX,p0,-,p2⟩:=bV.at_ (Rd.now H3.out (ay gQ hbi)) hjl;injection hA' with hA'
            injection hA' with hA1 hA2
            subst hA1 hA2;have q0: ∀ d:Later wr,d.now.cell? ⟨b,o+j*3,J⟩=N (G F (L[j]'hjl).from_):=λd=>d.cell tX p0
            have q2: ∀ d:Later wr,d.now.cell? ⟨b,o+j*3+2,J⟩=N (G F (L[j]'hjl).since):=λd=>d.cell tX p2
            have q3: ∀ d:Later wr,d.now.cell? ⟨w.heap.size,3,J⟩=N (T (N ⟨b,o,J⟩) L.length c2):=λd=>d.cell (sZ.out.step hbi).lt ((sZ.out.step hbi).cell 3)
            have q4: ∀ d:Later wr,d.now.cell? ⟨wo.heap.size,0,J⟩=N (G F f):=λd=>d.cell (zR.out.step hbi).lt ((zR.out.step hbi).cell 0)
            have q5: ∀ d:Later wr,d.now.cell? ⟨wo.heap.size,2,J⟩=N (G F s):=λd=>d.cell (zR.out.step hbi).lt ((zR.out.step hbi).cell 2)
            clear p0 p2
            cases hf:((L[j]'hjl).from_==f)
            ·have oG:Hid (¬ ((L[j]'hjl).from_=f/\(L[j]'hjl).since=s)):=I (λe=>by simp at hf;exact hf e.1);go_wp2_with fail;refine eX ai ai ?_;(repeat (go_big_quiet_step ((fail))));refine wpQuiet_nil ?_;rintro _ ⟨dq,rfl⟩;have hbe:=ay hbi dq.below;go_wp2_with fail;go_roundw
             case rel=>
              refine⟨j+1,O,λi hi hij=> ?_,by go_num,hbe⟩
              by_cases e:i=j
              ·subst e;rw[mg.out];exact oG.out
              ·exact yP.out i hi O
             case measure=>simp[intOf];omega
            ·cases hs:((L[j]'hjl).since==s)
             ·have oG:Hid (¬ ((L[j]'hjl).from_=f/\(L[j]'hjl).since=s)):=I (λe=>by simp at hs;exact hs e.2);go_wp2_with fail;refine eX ai ai ?_;(repeat (go_big_quiet_step ((fail))));refine wpQuiet_nil ?_;rintro _ ⟨dq,rfl⟩;have hbe:=ay hbi dq.below;go_wp2_with fail;go_roundw
              case rel=>
               refine⟨j+1,O,λi hi hij=> ?_,by go_num,hbe⟩
               by_cases e:i=j
               ·subst e;rw[mg.out];exact oG.out
               ·exact yP.out i hi O
              case measure=>simp[intOf];omega
             ·have HE:Hid (Gr.jd l1 cl L=ag):=I (E5 hlt (by rw[HO.out,ajU hlt hjk (by rw[mg.out];simpa using hf) (by rw[mg.out];simpa using hs)];rfl));go_wp2_with fail;refine eX ai ai ?_;(repeat (go_big_quiet_step ((fail))));refine wpQuiet_nil ?_;rintro _ ⟨dq,rfl⟩;have hbe:=ay (ay gQ hbi) dq.below;go_wp2_with fail;go_ret;exact⟨by rw[HE.out];rfl,hbe⟩
           ·have dx:Hid (Gr.wK l1 cl L k=ae):=I (by rw[HO.out,ajT hlt λi hi=>yP.out i hi O];rfl);have hbe:=ay ah3 hbi;go_wp2_with fail;go_roundw
            case rel=>
             refine⟨k+1,O,λj hj=> ?_,by go_num,hbe⟩
             by_cases e:j=k
             ·subst e;exact dx.out
             ·exact HN.out j O
            case measure=>simp[intOf];omega
        ·have HE:Hid (Gr.jd l1 cl L=ag):=I (E5 hlt (by rw[HX.out,Bw.out];(try simp at hk3);simp[hk3]));go_wp2_with (go_at_call 55;refine((K3.out _)).mono ?_;rintro e w2 ⟨rfl,rfl⟩);go_ret;exact⟨by rw[HE.out];rfl,gQ⟩
     ·have HE:Hid (Gr.jd l1 cl L=ae):=I (by unfold Gr.jd;rw[uE.out,kW.out,nT (λj hj=>HN.out j O)];simp[xV]);clear hB;go_wp2_with fail;go_ret;exact⟨by rw[HE.out];rfl,hbw⟩
   ·have HE:Hid (Gr.jd l1 cl L=ag):=I (by unfold Gr.jd;rw[hv1,hv2];simp[xV]);clear hv1 hv2;go_wp2_with (first
     |(go_at_call 193;(with_reducible refine(Bg cl ae cA cc _ (Rd.now H2.out hb) hn2).mono ?_);rintro e w2 ⟨rfl,hb2⟩;replace hb:=ay hb hb2;rw[uE.out];have hB2:=HB.out.step hb2;have e2:=hB2.cell 2;have e3:=hB2.cell 3)
     |(go_at_call 193;(with_reducible refine(Bg l1 ag A1 c1 _ (Rd.now H1.out hb) hn1).mono ?_);rintro e w3 ⟨rfl,hb3⟩;replace hb:=ay hb hb3;rw[kW.out];have hB3:=hB2.step hb3;have e4:=hB3.cell 3))
    go_ret;exact⟨by rw[HE.out];rfl,hb⟩
def Gj (a:Int) (w:Z) (e:eG) (w':Z):Prop:=e= .returned (G F a)/\Below w.heap.size w w'
def aM.val (x:aM):aj:= az #[G F x.holder,G F x.bF,G F x.date,G F x.share]
theorem ahs (a b:aM) (w:Z):aF ak 22 #[a.val,b.val] w λe w'=>e= .returned (aA (aT.same a b))/\Below w.heap.size w w':=by
 have HD:Hid (aT.same a b=(a.holder==b.holder&&(a.bF==b.bF&&a.date==b.date))):=I rfl;unfold aM.val;generalize aT.same a b=r at*;obtain⟨c,k,t,v⟩:=a;obtain⟨c2,k2,t2,v2⟩:=b;dsimp only at*;have HB:Hid (Below w.heap.size w ((w.alloc (U #[G F c,G F k,G F t,G F v] 79)).alloc (U #[G F c2,G F k2,G F t2,G F v2] 79))):=I (((aD _ w).alloc (aC _) _).alloc aL _)
 cases h1:(c==c2)<;>cases h2:(k==k2)<;>cases h3:(t==t2)
 all_goals
  rw[h1,h2,h3]at HD;go_enter Tryz.func22,Tryz.ntmps22;go_wp2_with fail;go_ret;exact⟨by rw[HD.out];rfl,HB.out⟩
theorem ahr (n:Int) (x:aM) (w:Z):aF ak 21 #[G F n,x.val] w λe w'=>e= .returned (aA (aT.yl n x))/\Below w.heap.size w w':=by
 have HD:Hid (aT.yl n x=(decide (0<=x.holder)&&(decide (x.holder<n)&&(decide (0<=x.bF)&&(decide (x.bF<n)&&(!(x.holder==x.bF)&&(Gr.eZ x.date&&(decide (0<=x.share)&&decide (x.share<=10000))))))))):=I rfl;have K2:Hid (∀ W:Z,aF ak 55 #[G F x.date] W λe w'=>e= bM (aA (Gr.eZ x.date))/\W=w'):=I (λW=>JP x.date W);unfold aM.val;generalize aT.yl n x=r at*;obtain⟨c,k,t,v⟩:=x;dsimp only at*;have HB:Hid (Below w.heap.size w (w.alloc (U #[G F c,G F k,G F t,G F v] 79))):=I ((aD _ w).alloc (aC _) _);generalize Gr.eZ t=dv at*
 by_cases h1: ¬ 0<=c
 ·have HE:Hid (r=ag):=I (by rw[HD.out];simp;omega);go_enter Dw,Dx;go_wp2_with (go_at_call 55;refine(K2.out _).mono ?_;rintro e w3 ⟨rfl,rfl⟩);go_ret;exact⟨by rw[HE.out];simp<;>omega,HB.out⟩
 replace h1:0<=c:=O
 by_cases h2: ¬ c<n
 ·have HE:Hid (r=ag):=I (by rw[HD.out];simp;omega);go_enter Dw,Dx;go_wp2_with (go_at_call 55;refine(K2.out _).mono ?_;rintro e w3 ⟨rfl,rfl⟩);go_ret;exact⟨by rw[HE.out];simp<;>omega,HB.out⟩
 replace h2:c<n:=O
 by_cases h3: ¬ 0<=k
 ·have HE:Hid (r=ag):=I (by rw[HD.out];simp;omega);go_enter Dw,Dx;go_wp2_with (go_at_call 55;refine(K2.out _).mono ?_;rintro e w3 ⟨rfl,rfl⟩);go_ret;exact⟨by rw[HE.out];simp<;>omega,HB.out⟩
 replace h3:0<=k:=O
 by_cases h4: ¬ k<n
 ·have HE:Hid (r=ag):=I (by rw[HD.out];simp;omega);go_enter Dw,Dx;go_wp2_with (go_at_call 55;refine(K2.out _).mono ?_;rintro e w3 ⟨rfl,rfl⟩);go_ret;exact⟨by rw[HE.out];simp<;>omega,HB.out⟩
 replace h4:k<n:=O;have HD2:Hid (r=((c !=k)&&(dv&&(decide (0<=v)&&decide (v<=10000))))):=I (by rw[HD.out,show decide (0<=c)=ae from kK O,show decide (c<n)=ae from kK O,show decide (0<=k)=ae from kK O,show decide (k<n)=ae from kK O];rfl);clear HD
 by_cases h5:(c !=k)=ag
 ·have HE:Hid (r=ag):=I (by rw[HD2.out,h5];rfl);go_enter Dw,Dx;go_wp2_with (go_at_call 55;refine(K2.out _).mono ?_;rintro e w3 ⟨rfl,rfl⟩);go_ret;exact⟨by rw[HE.out];simp<;>omega,HB.out⟩
 replace h5:(c !=k)=ae:=by simpa using h5
 rw[h5]at HD2
 cases dv
 ·have HE:Hid (r=ag):=I (by rw[HD2.out];rfl);go_enter Dw,Dx;go_wp2_with (go_at_call 55;refine(K2.out _).mono ?_;rintro e w3 ⟨rfl,rfl⟩);go_ret;exact⟨by rw[HE.out];simp<;>omega,HB.out⟩
 by_cases h6: ¬ 0<=v
 ·have HE:Hid (r=ag):=I (by rw[HD2.out];simp;omega);go_enter Dw,Dx;go_wp2_with (go_at_call 55;refine(K2.out _).mono ?_;rintro e w3 ⟨rfl,rfl⟩);go_ret;exact⟨by rw[HE.out];simp<;>omega,HB.out⟩
 replace h6:0<=v:=O;have HE:Hid (r=decide (v<=10000)):=I (by rw[HD2.out,show decide (0<=v)=ae from kK O];simp)
 by_cases h7:v<=10000
 all_goals
  go_enter Dw,Dx;go_wp2_with (go_at_call 55;refine(K2.out _).mono ?_;rintro e w3 ⟨rfl,rfl⟩);go_ret;exact⟨by rw[HE.out];simp<;>omega,HB.out⟩
section
open Go.RowKit Go.Shelf
def fI (s b k:Nat) (W W':Z):Prop:=Below s W W'/\ ∀ B,b<=B->B<b+k->W'.heap[B]? =W.heap[B]?
theorem fI.trans {s b k:Nat} {A W C:Z} (h:fI s b k A W) (g:fI s b k W C):fI s b k A C:=⟨h.1.trans g.1,λB h1 h2=>(g.2 B h1 h2).trans (h.2 B h1 h2)⟩
theorem Lf {s b k:Nat}: ∀ {A W C:Z},fI s b k A W->fI s b k W C->fI s b k A C:=λh g=>h.trans g
theorem fI.blk {s b k B:Nat} {W W':Z} {t:TypeId} {cs:Array aj} (h:fI s b k W W') (hB:au W B t cs) (h1:b<=B) (h2:B<b+k):au W' B t cs:=(h.2 B h1 h2).trans hB
theorem fI.refl (s b k:Nat) (W:Z):fI s b k W W:=⟨aD _ _,λ_ _ _=>rfl⟩
theorem fI.alloc {s b k:Nat} (W:Z) (o:Obj) (hs:s<=W.heap.size) (hb:b+k<=W.heap.size):fI s b k W (W.alloc o):=⟨(aD _ W).alloc hs _,λB _ h2=>L8 W _ _ O⟩
theorem fI.set {s b k:Nat} {A W:Z} (h:fI s b k A W) (p:aG) (v:aj) (h1:s<=p.block) (h2:p.block<b):fI s b k A (W.setCell p v):=⟨h.1.setCell h1 v,λB hB h3=>(uZ W p v B O).trans (h.2 B hB h3)⟩
theorem fI.drew {s b k:Nat} {A W:Z} (h:fI s b k A W):fI s b k A W.drew:=⟨h.1.drew,h.2⟩
theorem nC {β:Type} (B:Nat) (t:TypeId) (cs:Array aj):Own (λ(_:β) W=>au W B t cs):=λ_ X Y row hs hg hrow=>
 hs.grown hg (λe'=>by obtain⟨o,ho,hc⟩:=hrow B e'.symm;rw[show X.heap[B]? =_ from hs]at ho;cases ho;cases hc)
theorem Gq {β:Type} (B:Nat) (t:TypeId) (cs:β->Array aj):Own (λ(p:β) W=>au W B t (cs p)):=λ_ X Y row hs hg hrow=>
 hs.grown hg (λe'=>by obtain⟨o,ho,hc⟩:=hrow B e'.symm;rw[show X.heap[B]? =_ from hs]at ho;cases ho;cases hc)
end
section
open Go.RowKit Go.Shelf
attribute [local go_sem] Oper.semAt_some
def qg (h e:Int) (x:aM):Bool:=x.holder==h&&x.bF==e
def aM.enc (x:aM):Array aj:= #[az #[G F x.holder,G F x.bF,G F x.date,G F x.share]]
theorem alJ (h e:Int) (l:List aM) (k:Nat) (hk:k<l.length):(l.take (k+1)).filter (qg h e)=(l.take k).filter (qg h e)++if qg h e l[k] then [l[k]] else []:=by
 rw[gY hk,zH]
 congr 1
 cases hb:qg h e l[k]<;>simp[hb]
theorem filter_lt (f:aM->Bool) (l:List aM) (k:Nat) (hk:k<l.length) (h:f l[k]=ae):((l.take k).filter f).length<(l.filter f).length:=by
 have e:l.filter f=(l.take k).filter f++(l.drop k).filter f:=by rw[<- zH,Ml]
 rw[e,fK];have:l[k]∈(l.drop k).filter f:=vF.2 ⟨by rw[iK];exact⟨0,by rw[Vw];omega,aL⟩,h⟩;have:=PS this;omega
theorem alI (bf:Fence) (n:Nat) (hF:bf.fn 266) (hro:bf.round=J) (hn:1<=n) (l:List aM) (A:Option aG) (cp:Nat) (h e:Int) (s b:Nat) (w:Z)
 (hr:Rd w s 4 A l.length (cellsOf aM.cells l)) (hs:s<=w.heap.size) (b0:au w b 32 #[T A l.length cp]) (b1:au w (b+1) 3 #[G F h]) (b2:au w (b+1+1) 3 #[G F e]) (hln:l.length<=1000):
 SeqStopsK bf n ak 266 #[aN (N ⟨b,0,J⟩),aN (N ⟨b+1,0,J⟩),aN (N ⟨b+1+1,0,J⟩)] aM.enc (fI s b 3) (λys=>ys=l.filter (qg h e)) (λ_=>True) (l.filter (qg h e)).length w:=λl' fF Jx W hW hJ hJx hY h0=>by
 have HR:Hid (Rd W s 4 A l.length (cellsOf aM.cells l)):=I (hr.below (hW.mono hs) (aC _));have hlt2:=b2.lt;have HB0:Hid (au W b 32 #[T A l.length cp]):=I (b0.below hW O);have HB1:Hid (au W (b+1) 3 #[G F h]):=I (b1.below hW O);have HB2:Hid (au W (b+1+1) 3 #[G F e]):=I (b2.below hW O);have OJ:s<=W.heap.size:=iT hs hW.size;have HJ:Hid (∀ s A o,fF s A->fF s (A.alloc o)):=I λs A o hs=>hJ s A _ J hs (zB A o J) (λr e=>by cases e)
 have HY:=I hY;have e1:W.cell? ⟨b,0,J⟩=N (T A l.length cp):=HB0.out.cell 0;have hbb:=HB2.out.lt;clear hr b0 b1 b2 hW hJ hJx hY hlt2;refine Bl Tryz.func266 rfl hF ?_ hro;simp only[Tryz.ntmps266,nk,gX,mI,Nat.reduceAdd,Nat.reduceSub,qy,qz,qA,qB,oU,oV];gi_wp2;clear e1;gi_loopw [9] (λi wr=> ∃ k:Nat,k<=l.length/\i= G F k/\fF ((l.take k).filter (qg h e)) wr/\fI s b 3 W wr) (λi _=>l.length - (intOf i).toNat)
 case atStart=>exact⟨0,lq _,rfl,by simpa using h0,fI.refl _ _ _ _⟩
 case round=>
  clear h0;obtain⟨k,hk,rfl,hJs,hK⟩:=hrel;have hz:=hK.1.size
  by_cases hlt:k<l.length
  ·obtain⟨bb,o,hA,aX,f0,f1,f2,f3⟩:=aM.at_ (HR.out.below hK.1 (aC _)) hlt;subst hA;have HT:=I (alJ h e l k hlt);have HL:=I (filter_lt (qg h e) l k hlt);have HN:Hid (qg h e l[k]=(l[k].holder==h&&l[k].bF==e)):=I rfl;have tF:Hid (∀ o,fI s b 3 W (wr.alloc o)):=I (λo=>hK.trans (fI.alloc wr o O O));have pR:Hid (∀ o,fF ((l.take k).filter (qg h e)) (wr.alloc o)):=I (λo=>HJ.out _ _ o hJs);have Js:Hid _:=I (HY.out ((l.take k).filter (qg h e)) l[k]);unfold aM.enc at Js;generalize l[k]=x at*;obtain⟨xh,xe,xd,xs⟩:=x;dsimp only at*;have k1:(wr.alloc (U #[G F xh,G F xe,G F xd,G F xs] 79)).cell? ⟨b+1,0,J⟩=N (G F h):=((tF.out _).blk HB1.out O O).cell 0;have k2:(wr.alloc (U #[G F xh,G F xe,G F xd,G F xs] 79)).cell? ⟨b+1+1,0,J⟩=N (G F e):=((tF.out _).blk HB2.out O O).cell 0;clear hK hJs
   by_cases c1:(xh==h)=ag
   ·rw[c1,Bool.false_and]at HN;gi_wp2;refine⟨λ_ h=>(by cases h),?_⟩;gi_wp2;go_roundw
    case rel=>exact⟨k+1,O,by go_num,by rw[HT.out,HN.out];simpa using pR.out _,tF.out _⟩
    case measure=>simp[intOf];omega
   replace c1:(xh==h)=ae:=by simpa using c1
   by_cases c2:(xe==e)=ag
   ·rw[c2,Bool.and_false]at HN;gi_wp2;refine⟨λ_ h=>(by cases h),?_⟩;gi_wp2;go_roundw
    case rel=>exact⟨k+1,O,by go_num,by rw[HT.out,HN.out];simpa using pR.out _,tF.out _⟩
    case measure=>simp[intOf];omega
   replace c2:(xe==e)=ae:=by simpa using c2
   rw[c1,c2,Bool.and_true]at HN;obtain⟨fn,tmps,assign,body,hy,hR⟩:=Js.out (wr.alloc (U #[G F xh,G F xe,G F xd,G F xs] 79)) (pR.out _) (HL.out HN.out);gi_wp2;refine hR.mono ?_;rintro ee W3 (⟨rfl,hJ3,hk3⟩|⟨rfl,hJx3⟩)
   ·have hk4:=(tF.out _).trans hk3;clear hk3;gi_wp2;go_roundw
    case rel=>exact⟨k+1,O,by go_num,by rw[HT.out,HN.out];exact hJ3,hk4⟩
    case measure=>simp[intOf];omega
   ·gi_wp2;refine iq (Il rfl _ _ _) rfl ?_;exact⟨⟨_,rfl⟩,.inr ⟨_,trivial,hJx3⟩⟩
  ·have HE:Hid (l.take k=l):=I (kS O);rw[HE.out]at hJs;have xC:=I hJs;clear hJs;gi_wp2;go_end0;exact⟨⟨_,rfl⟩,.inl ⟨_,rfl,xC.out⟩⟩
end
abbrev hcells (l:List aM):List aj:=cellsOf aM.cells l
def FW (l:List aM) (h e d:Int) (k:Nat) (t:aj):Prop:=
 (t= G F (-1)/\aT.last (l.take k) h e d=J)\/ ∃ (i:Nat) (hi:i<l.length),i<k/\t= G F i/\aT.last (l.take k) h e d=N l[i]
theorem aeO {l:List aM} {h e d:Int} {k:Nat} {t:aj} (hk:k<l.length) (hb:FW l h e d k t) (hs:aT.seen h e d (aT.last (l.take k) h e d) l[k]=aT.last (l.take k) h e d):FW l h e d (k+1) t:=by
 unfold FW;rw[aT.aax l h e d k hk,hs]
 rcases hb with ⟨h1,h2⟩|⟨i,hi,h1,h2,h3⟩
 ·exact .inl ⟨h1,h2⟩
 ·exact .inr ⟨i,hi,O,h2,h3⟩
theorem aeP {l:List aM} {h e d:Int} {k:Nat} (hk:k<l.length) (hs:aT.seen h e d (aT.last (l.take k) h e d) l[k]=N l[k]):FW l h e d (k+1) (G F k):=by
 unfold FW;rw[aT.aax l h e d k hk,hs];exact .inr ⟨k,hk,O,rfl,rfl⟩
theorem ahp (l:List aM) (h e d:Int) (A:Option aG) (cp:Nat) (w:Z) (hr:Rd w w.heap.size 4 A l.length (hcells l)) (hn:l.length<=1000):
 aF ak 57 #[T A l.length cp,G F h,G F e,G F d] w (Gj (aT.at_ l h e d) w):=by
 have HR:=I hr;have hb:=aD w.heap.size w;clear hr;go_enter Tryz.func57,Tryz.ntmps57;go_wp2_with fail;go_loopw [9,10] (λt9 t wr=> ∃ k:Nat,k<=l.length/\t= G F k/\FW l h e d k t9/\Below w.heap.size w wr) (λ_ t _=>l.length - (intOf t).toNat)
 case atStart=>exact⟨0,O,rfl,.inl ⟨rfl,rfl⟩,hb⟩
 case round=>
  clear hb;obtain⟨k,hk,rfl,EM,hb⟩:=hrel
  by_cases hlt:k<l.length
  ·obtain⟨b,o,hA,aX,f0,f1,f2,f3⟩:=aM.at_ (Rd.now HR.out hb) hlt;have hkz:(k:Int)<(l.length:Int):=O;have qF:=I EM;have vP:=I (λhs=>aeO hlt EM hs);have oG:=I (λhs=> @aeP l h e d k hlt hs);have Gh:Hid (∀ b,aT.seen h e d b l[k]=if l[k].holder=h/\l[k].bF=e/\l[k].date<=d/\(∀ y,b=N y->y.date<l[k].date) then N l[k] else b):=I (λb=>rfl);generalize l[k]=x at*;obtain⟨xh,xe,xd,xs⟩:=x;dsimp only at*;subst hA;have q0:=λd:Later wr=>d.cell (ji aX (aC _)) f0
   have q1:=λd:Later wr=>d.cell (ji aX (aC _)) f1
   have q2:=λd:Later wr=>d.cell (ji aX (aC _)) f2
   clear f0 f1 f2 f3 EM
   by_cases c1:(xh==h)=ag
   ·have HK:=I (vP.out (by rw[Gh.out,bE];rintro⟨h1,_⟩;simp[h1]at c1));go_wp2_with fail;refine eX ai ai ?_;(repeat (go_big_quiet_step ((fail))));refine wpQuiet_nil ?_;rintro _ ⟨dq,rfl⟩;have hbe:=ay hb dq.below;go_wp2_with fail;go_roundw
    case rel=>exact⟨k+1,O,by go_num,HK.out,hbe⟩
    case measure=>simp[intOf];omega
   replace c1:(xh==h)=ae:=by simpa using c1
   by_cases c2:(xe==e)=ag
   ·have HK:=I (vP.out (by rw[Gh.out,bE];rintro⟨_,h1,_⟩;simp[h1]at c2));go_wp2_with fail;refine eX ai ai ?_;(repeat (go_big_quiet_step ((fail))));refine wpQuiet_nil ?_;rintro _ ⟨dq,rfl⟩;have hbe:=ay hb dq.below;go_wp2_with fail;go_roundw
    case rel=>exact⟨k+1,O,by go_num,HK.out,hbe⟩
    case measure=>simp[intOf];omega
   replace c2:(xe==e)=ae:=by simpa using c2
   by_cases c3:decide (xd<=d)=ag
   ·have HK:=I (vP.out (by rw[Gh.out,bE];rintro⟨_,_,h1,_⟩;simp at c3;omega));go_wp2_with fail;refine eX ai ai ?_;(repeat (go_big_quiet_step ((fail))));refine wpQuiet_nil ?_;rintro _ ⟨dq,rfl⟩;have hbe:=ay hb dq.below;go_wp2_with fail;go_roundw
    case rel=>exact⟨k+1,O,by go_num,HK.out,hbe⟩
    case measure=>simp[intOf];omega
   replace c3:decide (xd<=d)=ae:=by simpa using c3
   rcases qF.out with ⟨rfl,hl⟩|⟨i,hi,hik,rfl,hl⟩
   ·have HK:=I (oG.out (by rw[Gh.out,bB];rw[hl];exact⟨by simpa using c1,by simpa using c2,by simpa using c3,λy hy=>by simp at hy⟩));clear hl;go_wp2_with fail;refine eX ai ai ?_;(repeat (go_big_quiet_step ((fail))));refine wpQuiet_nil ?_;rintro _ ⟨dq,rfl⟩;have hbe:=ay hb dq.below;go_wp2_with fail;go_roundw
    case rel=>exact⟨k+1,O,by go_num,HK.out,hbe⟩
    case measure=>simp[intOf];omega
   ·obtain⟨b2,o2,hA2,qR,g0,g1,g2,g3⟩:=aM.at_ (Rd.now HR.out hb) hi;obtain⟨rfl,rfl⟩:b=b2/\o=o2:=by simpa using hA2
    have hiz:(i:Int)<(l.length:Int):=O;have r2:=λd:Later wr=>d.cell (ji aX (aC _)) g2
    have hneg:decide ((i:Int)<0)=ag:=iw O;clear g0 g1 g2 g3
    by_cases c4:decide (l[i].date<xd)=ag
    ·have HK:=I (vP.out (by rw[Gh.out,bE];rintro⟨_,_,_,h4⟩;have:=h4 _ hl;simp at c4;omega));clear hl;generalize l[i].date=yd at*;go_wp2_with fail;refine eX ai ai ?_;(repeat (go_big_quiet_step ((fail))));refine wpQuiet_nil ?_;rintro _ ⟨dq,rfl⟩;have hbe:=ay hb dq.below;go_wp2_with fail;go_roundw
     case rel=>exact⟨k+1,O,by go_num,HK.out,hbe⟩
     case measure=>simp[intOf];omega
    ·replace c4:decide (l[i].date<xd)=ae:=by simpa using c4
     have HK:=I (oG.out (by rw[Gh.out,bB];rw[hl];exact⟨by simpa using c1,by simpa using c2,by simpa using c3,λy hy=>by obtain rfl:=uz hy;simpa using c4⟩));clear hl;generalize l[i].date=yd at*;go_wp2_with fail;refine eX ai ai ?_;(repeat (go_big_quiet_step ((fail))));refine wpQuiet_nil ?_;rintro _ ⟨dq,rfl⟩;have hbe:=ay hb dq.below;go_wp2_with fail;go_roundw
     case rel=>exact⟨k+1,O,by go_num,HK.out,hbe⟩
     case measure=>simp[intOf];omega
  ·have hle:l.take k=l:=kS O
   rcases EM with ⟨rfl,hl⟩|⟨i,hi,hik,rfl,hl⟩
   ·have HE:Hid (aT.at_ l h e d=0):=I (by rw[hle]at hl;unfold aT.at_;rw[hl];rfl);clear hl hle;go_wp2_with fail;go_ret;exact⟨by rw[HE.out];rfl,hb⟩
   ·have HE:Hid (aT.at_ l h e d=l[i].share):=I (by rw[hle]at hl;unfold aT.at_;rw[hl];rfl);obtain⟨b,o,hA,aX,f0,f1,f2,f3⟩:=aM.at_ (Rd.now HR.out hb) hi;have hiz:(i:Int)<(l.length:Int):=O;have hneg: ¬ (i:Int)<0:=O;subst hA;clear hl hle;generalize l[i].share=ys at*;go_wp2_with fail;go_ret;exact⟨by rw[HE.out];rfl,hb⟩
section
open Go.RowKit Go.Shelf
attribute [local go_sem] Oper.semAt_some
def Ba (d:Int) (b:Option aM) (x:aM):Option aM:=if x.date<=d/\(∀ y,b=N y->y.date<x.date) then N x else b
theorem ajO (h e d:Int) (l:List aM) (b:Option aM):l.foldl (aT.seen h e d) b=(l.filter (qg h e)).foldl (Ba d) b:=by
 induction l generalizing b with
 |nil=>rfl
 |cons x l ih=>
  simp only[Mr,List.filter_cons]
  cases hp:qg h e x
  ·rw[show aT.seen h e d b x=b from by
    unfold aT.seen;rw[bE];rintro⟨h1,h2,_⟩;simp[qg,h1,h2]at hp]
   simpa using ih b
  ·have hq:x.holder=h/\x.bF=e:=by simpa [qg] using hp
   rw[show aT.seen h e d b x=Ba d b x from by
    unfold aT.seen Ba;simp[hq.1,hq.2]]
   simpa using ih _
def kE (d:Int) (pre:List aM):Option aM:=pre.foldl (Ba d) J
theorem aeN (d:Int) (pre:List aM) (x:aM):kE d (pre++ [x])=Ba d (kE d pre) x:=by simp[kE]
def EA:Option aM->Int
 |none=>0
 |some x=>x.date
theorem alH (bf:Fence) (n:Nat) (hF:bf.fn 236) (hro:bf.round=J) (A:Option aG) (m cp:Nat) (h e:Int) (w:Z):
 aaM bf n ak 236 #[T A m cp,G F h,G F e] w λee w'=>ee= bM (.func (.func 266) #[] #[aN (N ⟨w.heap.size,0,J⟩),aN (N ⟨w.heap.size+1,0,J⟩),aN (N ⟨w.heap.size+1+1,0,J⟩)])/\w'=((w.alloc (U #[T A m cp] 32)).alloc (U #[G F h] 3)).alloc (U #[G F e] 3):=by
 refine Bl Tryz.func236 rfl hF ?_ hro;simp only[Tryz.ntmps236,nk,gX,mI,Nat.reduceAdd,Nat.reduceSub,qy,qz,qA,qB,oU,oV];gi_wp2;go_ret;exact⟨rfl,rfl⟩
theorem ahV (bf:Fence) (n:Nat) (hL:bf.fn 178) (hA:bf.fn 236) (hF:bf.fn 266) (hro:bf.round=J) (hn:3<=n) (l:List aM) (A:Option aG) (cp:Nat) (h e d:Int) (w:Z)
 (hr:Rd w w.heap.size 4 A l.length (cellsOf aM.cells l)) (hln:l.length<=1000):
 aaM bf n ak 178 #[T A l.length cp,G F h,G F e,G F d] w (Gj (aT.at_ l h e d) w):=by
 have h1:1<=n:=O;refine callsIn_of_wp_marks Tryz.func178 rfl hL ?_ hro;simp only[Tryz.ntmps178,nk,gX,mI,Nat.reduceAdd,Nat.reduceSub,qy,qz,qA,qB,oU,oV];gi_wp2_with (gi_at_call 236;refine(alH bf (n - 1) hA hro _ _ _ _ _ _).mono ?_;rintro e w' ⟨rfl,rfl⟩);obtain⟨W0,hW0⟩: ∃ W0,(((((((w.alloc (U #[G F d] 3)).alloc (U #[G F 0] 3)).alloc (U #[G F 0] 3)).alloc (U #[aA ag] 4)).alloc (U #[T A l.length cp] 32)).alloc (U #[G F h] 3)).alloc (U #[G F e] 3))=W0:=⟨_,rfl⟩;have hsz:W0.heap.size=w.heap.size+1+1+1+1+1+1+1:=by rw[<- hW0];simp
 have hB0:Below w.heap.size w W0:=by rw[<- hW0];exact(((((((aD _ w).alloc (aC _) _).alloc aL _).alloc bL _).alloc bL _).alloc bL _).alloc bL _).alloc bL _
 have hg: ∀ (W:Z) (o:Obj) (B:Nat) (t:TypeId) (cs:Array aj),au W B t cs->au (W.alloc o) B t cs:=λW o B t cs h=>h.alloc o
 have k0:au W0 w.heap.size 3 #[G F d]:=by rw[<- hW0];exact hg _ _ _ _ _ (hg _ _ _ _ _ (hg _ _ _ _ _ (hg _ _ _ _ _ (hg _ _ _ _ _ (hg _ _ _ _ _ (au.new w 3 #[G F d]))))))
 have k1:au W0 (w.heap.size+1) 3 #[G F 0]:=by
  rw[<- hW0];have:=au.new (w.alloc (U #[G F d] 3)) 3 #[G F 0];rw[fG]at this;exact hg _ _ _ _ _ (hg _ _ _ _ _ (hg _ _ _ _ _ (hg _ _ _ _ _ (hg _ _ _ _ _ this))))
 have k2:au W0 (w.heap.size+1+1) 3 #[G F 0]:=by
  rw[<- hW0];have:=au.new ((w.alloc (U #[G F d] 3)).alloc (U #[G F 0] 3)) 3 #[G F 0];rw[fG,fG]at this;exact hg _ _ _ _ _ (hg _ _ _ _ _ (hg _ _ _ _ _ (hg _ _ _ _ _ this)))
 have k3:au W0 (w.heap.size+1+1+1) 4 #[aA ag]:=by
  rw[<- hW0];have:=au.new (((w.alloc (U #[G F d] 3)).alloc (U #[G F 0] 3)).alloc (U #[G F 0] 3)) 4 #[aA ag];rw[fG,fG,fG]at this;exact hg _ _ _ _ _ (hg _ _ _ _ _ (hg _ _ _ _ _ this))
 have k4:au W0 (w.heap.size+1+1+1+1) 32 #[T A l.length cp]:=by
  rw[<- hW0];have:=au.new ((((w.alloc (U #[G F d] 3)).alloc (U #[G F 0] 3)).alloc (U #[G F 0] 3)).alloc (U #[aA ag] 4)) 32 #[T A l.length cp];rw[fG,fG,fG,fG]at this;exact hg _ _ _ _ _ (hg _ _ _ _ _ this)
 have k5:au W0 (w.heap.size+1+1+1+1+1) 3 #[G F h]:=by
  rw[<- hW0];have:=au.new (((((w.alloc (U #[G F d] 3)).alloc (U #[G F 0] 3)).alloc (U #[G F 0] 3)).alloc (U #[aA ag] 4)).alloc (U #[T A l.length cp] 32)) 3 #[G F h];rw[fG,fG,fG,fG,fG]at this;exact hg _ _ _ _ _ this
 have k6:au W0 (w.heap.size+1+1+1+1+1+1) 3 #[G F e]:=by
  rw[<- hW0];have:=au.new ((((((w.alloc (U #[G F d] 3)).alloc (U #[G F 0] 3)).alloc (U #[G F 0] 3)).alloc (U #[aA ag] 4)).alloc (U #[T A l.length cp] 32)).alloc (U #[G F h] 3)) 3 #[G F e]
  rwa [fG,fG,fG,fG,fG,fG]at this
 rw[hW0];clear hW0 hg;refine wpIn_rangeFunc_ownH hro h1 (gf:=266) (lb:= #[aN (N ⟨w.heap.size+1+1+1+1,0,J⟩),aN (N ⟨w.heap.size+1+1+1+1+1,0,J⟩),aN (N ⟨w.heap.size+1+1+1+1+1+1,0,J⟩)]) rfl hF (enters_of Tryz.func266 ai rfl)
  (alI bf (n - 1) hF hro O l A cp h e w.heap.size (w.heap.size+1+1+1+1) W0 (Rd.now hr hB0 |>.below (aD _ _) (aC _) |> λ_=>hr.below hB0 (aC _)) O k4 k5 k6 hln) Lf
  (λW l o o' hl h1 h2 h3=>⟨belowK_b (w:=W0) O W l o o' hl h1 h2 h3,λB _ hB=>World.putObj_heap_other O⟩) (aD _ _) (λ_=>rfl)
  (λpre W=>((au W w.heap.size 3 #[G F d]/\au W (w.heap.size+1) 3 #[G F (aT.zy (kE d pre))])/\(au W (w.heap.size+1+1) 3 #[G F (EA (kE d pre))]/\au W (w.heap.size+1+1+1) 4 #[aA (kE d pre).isSome]))/\(((au W (w.heap.size+1+1+1+1) 32 #[T A l.length cp]/\au W (w.heap.size+1+1+1+1+1) 3 #[G F h])/\au W (w.heap.size+1+1+1+1+1+1) 3 #[G F e])/\Below w.heap.size w W))
  (λ_ _ _=>False)
  (OwnFrom.and (OwnFrom.and (OwnFrom.and (Own.from (nC _ _ _) _) (Own.from (Gq _ _ (λpre=> #[G F (aT.zy (kE d pre))])) _)) (OwnFrom.and (Own.from (Gq _ _ (λpre=> #[G F (EA (kE d pre))])) _) (Own.from (Gq _ _ (λpre=> #[aA (kE d pre).isSome])) _))) (OwnFrom.and (OwnFrom.and (OwnFrom.and (Own.from (nC _ _ _) _) (Own.from (nC _ _ _) _)) (Own.from (nC _ _ _) _)) (ownFrom_below (aC _) O)))
  (λ_ _ _ _ _ hs _ _=>hs)
  ⟨⟨⟨k0,k1⟩,⟨k2,k3⟩⟩,⟨⟨k4,k5⟩,k6⟩,hB0⟩
  (λx a' W=> ∃ Bx,w.heap.size+1+1+1+1+1+1<Bx/\au W Bx 79 #[G F x.holder,G F x.bF,G F x.date,G F x.share]/\a'= { tmps:= #[T A l.length cp,G F h,G F e,G F d,aV,aV,aV,aN (N ⟨w.heap.size,0,J⟩),G F 0,aN (N ⟨w.heap.size+1,0,J⟩),aN (N ⟨w.heap.size+1+1,0,J⟩),aN (N ⟨w.heap.size+1+1+1,0,J⟩),aN (N ⟨Bx,0,J⟩),T A l.length cp,G F h,G F e,.func (.func 266) #[] #[aN (N ⟨w.heap.size+1+1+1+1,0,J⟩),aN (N ⟨w.heap.size+1+1+1+1+1,0,J⟩),aN (N ⟨w.heap.size+1+1+1+1+1+1,0,J⟩)],az #[G F x.holder,G F x.bF,G F x.date,G F x.share],aV,aV,aV,aV,aV,aV,aV,aV,aV,aV,aV,aV,aV,aV,aV,aV,aV,aV,aV],defers:= [] })
  (λx a' _ X Y row hs hg hr=>by obtain⟨Bx,h1,h2,h3⟩:=hs;exact⟨Bx,h1,nC (β:=Unit) Bx _ _ () X Y row h2 hg (λr e=>(hr r e).2),h3⟩)
  ?assign ?body ?done ?stop
 case assign=>
  rintro l' pre x W K ⟨⟨⟨i0,i1⟩,⟨i2,i3⟩⟩,⟨⟨i4,i5⟩,i6⟩,hB1⟩ hK;unfold aM.enc;have TV:=i6.lt;gi_wp2;exact hK _ _ ((KeepsOthers.alloc _ _).from _) (fI.alloc W _ hB1.size O) ⟨⟨⟨i0.alloc _,i1.alloc _⟩,⟨i2.alloc _,i3.alloc _⟩⟩,⟨⟨i4.alloc _,i5.alloc _⟩,i6.alloc _⟩,hB1.alloc hB1.size _⟩ ⟨W.heap.size,TV,au.new W _ _,rfl⟩
 case body=>
  rintro l' pre x a' W hl ⟨r,hr⟩ ⟨⟨⟨i0,i1⟩,⟨i2,i3⟩⟩,⟨⟨i4,i5⟩,i6⟩,hB1⟩ ⟨Bx,hBx,bX,rfl⟩ hlt;have HS:=I (aeN d pre x);have c2:W.cell? ⟨Bx,2,J⟩=N (G F x.date):=bX.cell 2;have c3:W.cell? ⟨Bx,3,J⟩=N (G F x.share):=bX.cell 3;have e0:W.cell? ⟨w.heap.size,0,J⟩=N (G F d):=i0.cell 0;have HI:Hid (((au W w.heap.size 3 #[G F d]/\au W (w.heap.size+1) 3 #[G F (aT.zy (kE d pre))])/\(au W (w.heap.size+1+1) 3 #[G F (EA (kE d pre))]/\au W (w.heap.size+1+1+1) 4 #[aA (kE d pre).isSome]))/\(((au W (w.heap.size+1+1+1+1) 32 #[T A l.length cp]/\au W (w.heap.size+1+1+1+1+1) 3 #[G F h])/\au W (w.heap.size+1+1+1+1+1+1) 3 #[G F e])/\Below w.heap.size w W)):=I ⟨⟨⟨i0,i1⟩,⟨i2,i3⟩⟩,⟨⟨i4,i5⟩,i6⟩,hB1⟩;have e2:W.cell? ⟨w.heap.size+1+1,0,J⟩=N (G F (EA (kE d pre))):=i2.cell 0;have e3:W.cell? ⟨w.heap.size+1+1+1,0,J⟩=N (aA (kE d pre).isSome):=i3.cell 0;have e1:W.cell? ⟨w.heap.size+1,0,J⟩=N (G F (aT.zy (kE d pre))):=i1.cell 0;have z1:W.frozen? ⟨w.heap.size+1,0,J⟩=ag:=i1.frozen 0;have z2:W.frozen? ⟨w.heap.size+1+1,0,J⟩=ag:=i2.frozen 0;have z3:W.frozen? ⟨w.heap.size+1+1+1,0,J⟩=ag:=i3.frozen 0;clear i0 i1 i2 i3 i4 i5 i6 hB1 bX
  by_cases k1:decide (x.date<=d)=ag
  ·have HE:Hid (kE d (pre++ [x])=kE d pre):=I (by rw[HS.out];unfold Ba;rw[bE];rintro⟨h1,_⟩;simp at k1;omega);gi_wp2;exact⟨KeepsFrom.refl _ _,fI.refl _ _ _ _,by dsimp only;rw[HE.out];exact HI.out⟩
  replace k1:decide (x.date<=d)=ae:=by simpa using k1
  have hmx:(ak).follows .mixedOrders=ae:=ai;have HK:Hid (KeepsFrom W0.heap.size W ((((W.setCell ⟨w.heap.size+1,0,J⟩ (G F x.share)).setCell ⟨w.heap.size+1+1,0,J⟩ (G F x.date)).setCell ⟨w.heap.size+1+1+1,0,J⟩ (aA ae)).drew)):=I (((((KeepsOthers.setCell _ _ _).trans (KeepsOthers.setCell _ _ _)).trans (KeepsOthers.setCell _ _ _)).trans (KeepsOthers.drew _)).from _);have yK:Hid (fI w.heap.size (w.heap.size+1+1+1+1) 3 W ((((W.setCell ⟨w.heap.size+1,0,J⟩ (G F x.share)).setCell ⟨w.heap.size+1+1,0,J⟩ (G F x.date)).setCell ⟨w.heap.size+1+1+1,0,J⟩ (aA ae)).drew)):=I (((((fI.refl _ _ _ _).set _ _ (by show _<=w.heap.size+1;omega) (by show w.heap.size+1<_;omega)).set _ _ (by show _<=w.heap.size+1+1;omega) (by show w.heap.size+1+1<_;omega)).set _ _ (by show _<=w.heap.size+1+1+1;omega) (by show w.heap.size+1+1+1<_;omega)).drew);have yO:Hid (kE d (pre++ [x])=N x->(((au ((((W.setCell ⟨w.heap.size+1,0,J⟩ (G F x.share)).setCell ⟨w.heap.size+1+1,0,J⟩ (G F x.date)).setCell ⟨w.heap.size+1+1+1,0,J⟩ (aA ae)).drew) w.heap.size 3 #[G F d]/\au ((((W.setCell ⟨w.heap.size+1,0,J⟩ (G F x.share)).setCell ⟨w.heap.size+1+1,0,J⟩ (G F x.date)).setCell ⟨w.heap.size+1+1+1,0,J⟩ (aA ae)).drew) (w.heap.size+1) 3 #[G F (aT.zy (kE d (pre++ [x])))])/\(au ((((W.setCell ⟨w.heap.size+1,0,J⟩ (G F x.share)).setCell ⟨w.heap.size+1+1,0,J⟩ (G F x.date)).setCell ⟨w.heap.size+1+1+1,0,J⟩ (aA ae)).drew) (w.heap.size+1+1) 3 #[G F (EA (kE d (pre++ [x])))]/\au ((((W.setCell ⟨w.heap.size+1,0,J⟩ (G F x.share)).setCell ⟨w.heap.size+1+1,0,J⟩ (G F x.date)).setCell ⟨w.heap.size+1+1+1,0,J⟩ (aA ae)).drew) (w.heap.size+1+1+1) 4 #[aA (kE d (pre++ [x])).isSome])))):=I (λhq=>by
   rw[hq];exact⟨⟨((HI.out.1.1.1.far (p:=⟨w.heap.size+1,0,J⟩) (by show w.heap.size≠w.heap.size+1;omega) _).far (p:=⟨w.heap.size+1+1,0,J⟩) (by show w.heap.size≠w.heap.size+1+1;omega) _).far (p:=⟨w.heap.size+1+1+1,0,J⟩) (by show w.heap.size≠w.heap.size+1+1+1;omega) _,
    ((HI.out.1.1.2.bZ 0 _).far (p:=⟨w.heap.size+1+1,0,J⟩) (by show w.heap.size+1≠w.heap.size+1+1;omega) _).far (p:=⟨w.heap.size+1+1+1,0,J⟩) (by show w.heap.size+1≠w.heap.size+1+1+1;omega) _⟩,
    ((HI.out.1.2.1.far (p:=⟨w.heap.size+1,0,J⟩) (by show w.heap.size+1+1≠w.heap.size+1;omega) _).bZ 0 _).far (p:=⟨w.heap.size+1+1+1,0,J⟩) (by show w.heap.size+1+1≠w.heap.size+1+1+1;omega) _,
    ((HI.out.1.2.2.far (p:=⟨w.heap.size+1,0,J⟩) (by show w.heap.size+1+1+1≠w.heap.size+1;omega) _).far (p:=⟨w.heap.size+1+1,0,J⟩) (by show w.heap.size+1+1+1≠w.heap.size+1+1;omega) _).bZ 0 _⟩)
  cases hbb:kE d pre
  ·have HQ:=I (yO.out (by rw[HS.out,hbb];unfold Ba;rw[bB];exact⟨by simpa using k1,λy hy=>by simp at hy⟩));rw[hbb]at e1 e2 e3;simp only[wV]at e3;gi_wp2;gi_region_elder_o
   all_goals gi_wp2
   all_goals exact⟨HK.out,yK.out,HQ.out,⟨⟨yK.out.blk HI.out.2.1.1.1 O O,yK.out.blk HI.out.2.1.1.2 O O⟩,yK.out.blk HI.out.2.1.2 O O⟩,HI.out.2.2.trans yK.out.1⟩
  ·rename_i y
   by_cases k2:decide (y.date<x.date)=ag
   ·have HE:Hid (kE d (pre++ [x])=kE d pre):=I (by rw[HS.out,hbb];unfold Ba;rw[bE];rintro⟨_,h1⟩;have:=h1 _ rfl;simp at k2;omega);rw[hbb]at e1 e2 e3;simp only[rD,EA]at e2 e3;gi_wp2;exact⟨KeepsFrom.refl _ _,fI.refl _ _ _ _,by dsimp only;rw[HE.out];exact HI.out⟩
   ·replace k2:decide (y.date<x.date)=ae:=by simpa using k2
    have HQ:=I (yO.out (by rw[HS.out,hbb];unfold Ba;rw[bB];exact⟨by simpa using k1,λz hz=>by obtain rfl:=uz hz;simpa using k2⟩));rw[hbb]at e1 e2 e3;simp only[rD,EA]at e2 e3;gi_wp2;gi_region_elder_o
    all_goals gi_wp2
    all_goals exact⟨HK.out,yK.out,HQ.out,⟨⟨yK.out.blk HI.out.2.1.1.1 O O,yK.out.blk HI.out.2.1.1.2 O O⟩,yK.out.blk HI.out.2.1.2 O O⟩,HI.out.2.2.trans yK.out.1⟩
 case done=>
  rintro D ys W hD rfl ⟨⟨⟨i0,i1⟩,⟨i2,i3⟩⟩,⟨⟨i4,i5⟩,i6⟩,hB1⟩ hK;have HE:Hid (aT.zy (kE d (l.filter (qg h e)))=aT.at_ l h e d):=I (by unfold aT.at_ aT.last kE;rw[ajO]);have c1:W.cell? ⟨w.heap.size+1,0,J⟩=N (G F (aT.zy (kE d (l.filter (qg h e))))):=i1.cell 0;rw[HE.out]at c1;gi_wp2;refine⟨by simp,.inl ⟨_,_,rfl,run_takeDeferred hK,?_⟩⟩;exact⟨_,results_tmp rfl _ _ _,rfl,hB1.trans (belowK_b (w:=w) (aC _) W D _ _ O hK rfl rfl)⟩
 case stop=>
  rintro D c pre W _ _ h _;exact h.elim
theorem Zu (l:List aM) (A:Option aG) (cp:Nat) (h e d:Int) (w:Z) (hr:Rd w w.heap.size 4 A l.length (cellsOf aM.cells l)) (hln:l.length<=1000):
 aF ak 178 #[T A l.length cp,G F h,G F e,G F d] w (Gj (aT.at_ l h e d) w):=
 (jM (n:=5)).1 (ahV lC 5 trivial trivial trivial rfl O l A cp h e d w hr hln)
end
section
open Go.RowKit Go.Maps Go.Sort Go.Shelf
theorem an9 (m:Nat):AnyZI.SortsIn ak Tryz.ab1 lC m:=
 ⟨λblk off cap ss W hH hblk hsz=>jM.2 (Tryz.slices_Sort_int blk off cap ss W hH hblk hsz),λp cap W=>jM.2 (Tryz.slices_Sort_int_none p cap W)⟩
theorem aik (mb:Option Nat) (W:Z):aF ak 177 #[.map mb] W λe w'=>e= bM (.func (.func 235) #[] #[aN (N ⟨W.heap.size,0,J⟩)])/\w'=W.alloc (U #[.map mb] 98):=
 (jM (n:=5)).1 (AnyZI.keys_in Tryz.aat lC 5 trivial rfl mb W)
def NL (bA:TypeId) (S:List Int) (w:Z) (e:eG) (w':Z):Prop:=
 ∃ (v:aj) (ss:List Int),e= .returned v/\ss.Pairwise (· < ·)/\(∀ x,x∈ss↔x∈S)/\w'.ownsRow w.heap.size bA 1 v ss.length (intCells ss)/\Below w.heap.size w w'
theorem aiA (b n:Nat) (S:List Int) (w:Z) (h:rR ak 3 4 w b n S) (hn:n<=1000000):
 aF ak 176 #[.func (.func 235) #[] #[aN (N ⟨w.heap.size,0,J⟩)]] (w.alloc (U #[.map (N b)] 98)) (NL 3 S (w.alloc (U #[.map (N b)] 98))):=by
 obtain⟨D0,hown,_,hh⟩:=h;have hsz:=hown.size_le;have hbl:=hown.lt;have hseq:SeqGives lC 2 ak 235 #[aN (N ⟨w.heap.size,0,J⟩)] encZ (λss=>ss.Perm (intKeys D0)) (Maps.size D0) (w.alloc (U #[.map (N b)] 98)):=
  AnyZI.keys_gives (ρ:=Tryz.aau) { Tryz.aat with } lC _ trivial rfl O w.heap.size b n D0 _ aL aL (by
   obtain⟨es,clock,hb,Ft,hs,hD⟩:=hown;exact⟨es,clock,(L8 _ _ b hbl).trans hb,Ft,hs,hD⟩)
 have hc:=(jM (n:=5)).1 (AnyZI.sorted_in Tryz.an8 lC 5 trivial trivial trivial trivial rfl O (an9 _) (enters_of Tryz.func234 ai rfl) 235 #[aN (N ⟨w.heap.size,0,J⟩)] trivial (enters_of Tryz.func235 ai rfl) _ _ fQ O _ hseq);refine hc.mono ?_;rintro e w' ⟨v,ss,rfl,hp,hrow,_,hb⟩;obtain⟨h1,h2⟩:=XP.keys hown dh (λc=>hh c) hp;refine⟨v,Hu ss,rfl,aod h1,λx=>(aof ss x).trans (h2 x),?_,hb⟩;rw[aoe];exact hrow
theorem ZB (l:List aM) (A:Option aG) (cp:Nat) (w:Z) (hr:Rd w w.heap.size 4 A l.length (cellsOf aM.cells l)) (hn:l.length<=1000) (hw: ∀ x∈l,Wf x.date):
 aF ak 126 #[T A l.length cp] w (NL 3 (l.map aM.date) w):=by
 have HR:=I hr;have HW:=I hw;have hb:=aD w.heap.size w;have hmm:= @rC ak;clear hr hw;go_enter Tryz.func126,Tryz.ntmps126;go_wp2_with fail;go_loopw [9] (λt wr=> ∃ k:Nat,k<=l.length/\t= G F k/\rR ak 3 4 wr w.heap.size k ((l.take k).map aM.date)/\Below w.heap.size w wr) (λt _=>l.length - (intOf t).toNat)
 case atStart=>exact⟨0,O,rfl,rR.made w,hb.alloc hb.size _⟩
 case round=>
  clear hb;obtain⟨k,hk,rfl,hK,hb⟩:=hrel;have hz:=hb.size
  by_cases hlt:k<l.length
  ·obtain⟨b,o,hA,aX,f0,f1,f2,f3⟩:=aM.at_ (Rd.now HR.out hb) hlt;subst hA;have hwf:=HW.out _ (bP hlt);have HT:Hid ((l.take (k+1)).map aM.date=(l.take k).map aM.date++ [l[k].date]):=I (by rw[gY hlt,mJ];rfl);generalize l[k]=x at*;obtain⟨xh,xe,xd,xs⟩:=x;dsimp only at*;have hKx:=hK.alloc (U #[G F xh,G F xe,G F xd,G F xs] 79);have hb2:Below w.heap.size w (wr.alloc (U #[G F xh,G F xe,G F xd,G F xs] 79)):=hb.alloc hb.size _;clear hK;go_wp2_with (at_mapUpdate;refine acn rfl _ _ _ 98 rfl dh iX wR hKx fQ xd hwf rfl rfl rfl ?_;intro w5 Tf hg5;have hb5:Below w.heap.size w w5:=ni hb2 hg5 hb2.size (λj hj=>by injection hj with hj;omega);clear hg5 hKx);go_roundw
   case rel=>exact⟨k+1,O,by go_num,by rw[HT.out];exact Tf,hb5⟩
   case measure=>simp[intOf];omega
  ·have hle:l.take k=l:=kS O;rw[hle]at hK;clear hle;have HK:=I hK;clear hK;go_wp2_with (first
    |(go_at_call 177;refine(aik _ _).mono ?_;rintro e w2 ⟨rfl,rfl⟩)
    |(go_at_call 176;refine(aiA _ _ _ _ HK.out O).mono ?_;rintro e w3 ⟨v,ss,rfl,h1,h2,h3,h4⟩))
   go_ret;exact⟨_,ss,rfl,h1,h2,oO h3 bL,(hb.alloc hz _).trans (h4.mono bL)⟩
end
end Go.Proofs.YtbedbfdhfokifaaGreat
