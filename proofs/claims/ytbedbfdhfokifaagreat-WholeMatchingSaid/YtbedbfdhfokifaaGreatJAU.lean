/- Part of the proof of WholeMatching. -/
import Derived.Test.YtbedbfdhfokifaaGreatJAO
import Derived.Test.YtbedbfdhfokifaaGreatJAQ
namespace Go.Proofs.YtbedbfdhfokifaaGreat
set_option maxRecDepth 100000
set_option maxHeartbeats 16000000
set_option linter.unusedVariables false
set_option linter.unusedSimpArgs false
open _root_.Bool renaming true->ae,false->ag
open Go renaming World->Z,Calls->aF,Addr->aG,Value->aj,maxLen->bK,Ending->eG
open Go.IntKind renaming i64->F
open Go.Obj renaming cells->U
open Go.Proofs.Tryz renaming prog->ak
open Go.Value renaming int->G,slice->T,pointer->aN,string->av,agg->az
open _root_.Option renaming none->J,some->N
open Go.RowKit
def xM (n:Int) (w:Z) (e:eG) (w':Z):Prop:=e= .returned (G F n)/\Below w.heap.size w w'
section
variable (aB:Array aj) (cur:ByteArray) (y m p:Int) (cl:List Acc) (cA:Option aG) (cc:Nat) (ro:dZ) (el:List aY) (eA:Option aG) (ec:Nat) (w:Z) (id en da kd fo:Int) (tx:ByteArray) (ll:List bq) (lA:Option aG) (lc:Nat)
theorem agZ (HG:Hid (aB= #[av cur,G F y,G F m,G F p,T cA cl.length cc,G F ro.dU,G F ro.dR,G F ro.dO,G F ro.inventory,G F ro.reserve,G F ro.dV,G F ro.dJ,G F ro.acquired,G F ro.dX,G F ro.dP,G F ro.dN,G F ro.dQ,G F ro.dW,G F ro.difference,G F ro.dL,T eA el.length ec])) (h:eB w cl cA el eA) (hF:lY cur cl el) (htx:tx.size<=bK) (hr:Rd w w.heap.size 3 lA ll.length (cellsOf bq.cells ll)) (hn:ll.length<=1000):
 aF ak 219 #[az aB,az #[G F id,G F en,G F da,G F kd,G F fo,av tx,T lA ll.length lc]] w (xM (Jn.nW (Gr.gv cur cl ro el (ax.ok y m p)) el.length ⟨id,en,da,kd,fo,tx,⟨ll,lA,lc⟩⟩) w):=by
 have hel:=hF.en;have H:=I h;have HR:=I hr;have lG:=I (λW (h:eB W cl cA el eA)=>Ol aB cur y m p cl cA cc ro el eA ec W HG h hF);clear h hF hr;have hgi:(ak.info? 29).map (·.size)=N aB.size:=by rw[HG.out];exact gy
 have hb:Below w.heap.size w ((w.alloc (U aB 29)).alloc (U #[G F id,G F en,G F da,G F kd,G F fo,av tx,T lA ll.length lc] 107)):=((aD _ _).alloc (aC _) _).alloc aL _;have HB:=I ((au.new w 29 aB).alloc (U #[G F id,G F en,G F da,G F kd,G F fo,av tx,T lA ll.length lc] 107));have HP:=I (eT w (U aB 29) 107 #[G F id,G F en,G F da,G F kd,G F fo,av tx,T lA ll.length lc]);generalize Gr.gv cur cl ro el (ax.ok y m p)=V at*;generalize hX:Jn.nW V el.length ⟨id,en,da,kd,fo,tx,⟨ll,lA,lc⟩⟩=X at*;have HX:=I hX;clear hX;go_enter Tryz.func219,Tryz.ntmps219;go_upto_region 1 with fail
 generalize (w.alloc (U aB 29)).alloc (U #[G F id,G F en,G F da,G F kd,G F fo,av tx,T lA ll.length lc] 107)=W at*;have g20:W.cell? ⟨w.heap.size,20,J⟩=N (T eA el.length ec):=(HB.out.cell 20).trans aQ
 cases V
 rotate_left
 by_cases h1:id<1
 rotate_left
 by_cases h2:en<0
 rotate_left
 by_cases h4:(el.length:Int)<=en
 rotate_left
 by_cases h5:kd<1
 rotate_left
 by_cases h6:3<kd
 rotate_left
 ·have h3:0<=en:=O
  rcases (by omega:(kd=3/\1<=fo)\/(kd≠3/\fo=0)\/(kd=3/\fo<1)\/(kd≠3/\fo≠0)) with ⟨h7,h8⟩|⟨h7,h8⟩|⟨h7,h8⟩|⟨h7,h8⟩
  all_goals have F9:Hid ((kd=3/\1<=fo)\/(kd≠3/\fo=0)\/(kd=3/\fo<1)\/(kd≠3/\fo≠0)):=I O
  all_goals first
   |(have e7:(kd==3)=ae:=by simpa using h7)
   |(have e7:(kd==3)=ag:=by simpa using h7)
  all_goals first
   |(have e8:(kd !=3)=ag:=by simpa using h7)
   |(have e8:(kd !=3)=ae:=by simpa using h7)
  all_goals first
   |(have e9:(fo !=0)=ag:=by simpa using h8)
   |(have e9:(fo !=0)=ae:=by simpa using h8)
   |skip
  iterate 2
   focus
    have dx:Hid ((kd=3->1<=fo)/\(kd≠3->fo=0)):=I ⟨λ_=>O,λ_=>O⟩;have HKK:=I h7;clear h7
    try (have h88:fo=0:=h8;clear h88 h8)
    cases hpl:Jn.jH tx
    rotate_left
    by_cases h8:ll.length<2
    rotate_left
    by_cases h9:40<ll.length
    rotate_left
    ·have I4:Hid (Jn.Ab ae el.length ⟨id,en,da,kd,fo,tx,⟨ll,lA,lc⟩⟩):=I ⟨rfl,by dsimp only;omega,by dsimp only;omega,by dsimp only;omega,by dsimp only;omega,by dsimp only;omega,dx.out.1,dx.out.2,hpl,by dsimp only;omega,by dsimp only;omega⟩;have jT:=I hpl;clear hpl;go_wp2_with
      (first
       |(refine cZ 29 (.tmp 2) rfl (w.heap.size) rfl ai (HB).out bQ hgi ?_)
       |(go_at_call 76;refine(lG.out _ (H.out.step hb)).mono ?_;rintro e w3 ⟨rfl,hb3⟩;have HB3:=I (HB.out.step hb3);have aP:=I (HP.out.step hb3);replace hb:=ay hb hb3;clear hb3;have k0:w3.cell? ⟨w.heap.size+1,0,J⟩=N (G F id):=aP.out.cell 0;have k1:w3.cell? ⟨w.heap.size+1,1,J⟩=N (G F en):=aP.out.cell 1;have k3:w3.cell? ⟨w.heap.size+1,3,J⟩=N (G F kd):=aP.out.cell 3;have k4:w3.cell? ⟨w.heap.size+1,4,J⟩=N (G F fo):=aP.out.cell 4;have k5:w3.cell? ⟨w.heap.size+1,5,J⟩=N (av tx):=aP.out.cell 5;have k6:w3.cell? ⟨w.heap.size+1,6,J⟩=N (T lA ll.length lc):=aP.out.cell 6)
       |(go_at_call 253;refine(O6 tx _ htx).mono ?_;rintro e w9 ⟨rfl,rfl⟩;(try rw[jT.out])))
     go_loopw [64] (λt wr=> ∃ k:Nat,k<=ll.length/\(∀ j (h:j<k) (h2:j<ll.length),Jn.jc el.length en (ll[j]'h2)=ae)/\t= G F k/\au wr (w.heap.size+1) 107 #[G F id,G F en,G F da,G F kd,G F fo,av tx,T lA ll.length lc]/\Below w.heap.size w wr) (λt _=>ll.length - (intOf t).toNat)
     case atStart=>exact⟨0,O,λj h=>O,rfl,aP.out,hb⟩
     case round=>
      clear hb k0 k1 k3 k4 k5 k6 aP;obtain⟨k,hk,hno,rfl,hP,hb⟩:=hrel;have HN:=I hno;have gD:=I hP;have hz:=hb.size;clear hno hP
      by_cases hlt:k<ll.length
      ·obtain⟨b,o,hA,aX,f0,f1,f2⟩:=bq.at_ (Rd.now HR.out hb) hlt;subst hA;have HST:Hid (Jn.jc el.length en ll[k]=ae-> ∀ j (h:j<k+1) (h2:j<ll.length),Jn.jc el.length en (ll[j]'h2)=ae):=I (λhq j h h1=>by
        by_cases e:j=k
        ·subst e;exact hq
        ·exact HN.out j O h1)
       obtain⟨u,hu⟩: ∃ u,u=ll[k]:=⟨_,rfl⟩;rw[<- hu]at f0 f1 f2 HST;obtain⟨la,lm,lp⟩:=u;have yL:Hid (ll[k]=⟨la,lm,lp⟩):=I hu.symm;clear hu;dsimp only at*;have nO:=I (gD.out.alloc (U #[G F la,G F lm,G F lp] 131));have k1:(wr.alloc (U #[G F la,G F lm,G F lp] 131)).cell? ⟨w.heap.size+1,1,J⟩=N (G F en):=nO.out.cell 1;have hb1:=hb.alloc hz (U #[G F la,G F lm,G F lp] 131)
       by_cases a1:lm=0
       ·have b1:(lm==0)=ae:=by simpa using a1
        subst a1;have HE:Hid (X=1):=I (by rw[<- HX.out];refine Jn.GD (k:=k) hlt ?_;dsimp only;rw[yL.out];rfl);go_wp2_with fail;go_ret;exact⟨by rw[HE.out];rfl,hb1⟩
       have b1:(lm==0)=ag:=by simpa using a1
       cases kQ:pF lm
       ·have HE:Hid (X=1):=I (by rw[<- HX.out];refine Jn.GD (k:=k) hlt ?_;dsimp only;rw[yL.out];exact Jn.OP O h3 (λh=>by have a2:=h.am;dsimp only at a2;rw[kQ]at a2;cases a2));have j4:=I kQ;clear kQ;go_wp2_with (go_at_call 116;refine(Da lm _).mono ?_;rintro e w9 ⟨rfl,rfl⟩;rw[j4.out]);go_ret;exact⟨by rw[HE.out];rfl,hb1⟩
       have HA1:=I a1;clear a1
       by_cases a2:lp< -1
       ·have HE:Hid (X=1):=I (by rw[<- HX.out];refine Jn.GD (k:=k) hlt ?_;dsimp only;rw[yL.out];exact Jn.OP O h3 (λh=>by have a1:=h.nz;have a2:=h.p0;have a3:=h.p1;have a4:=h.pe;dsimp only at *;omega));go_wp2_with (go_at_call 116;refine(Da lm _).mono ?_;rintro e w9 ⟨rfl,rfl⟩);go_ret;exact⟨by rw[HE.out];rfl,hb1⟩
       by_cases a3:(el.length:Int)<=lp
       ·have HE:Hid (X=1):=I (by rw[<- HX.out];refine Jn.GD (k:=k) hlt ?_;dsimp only;rw[yL.out];exact Jn.OP O h3 (λh=>by have a1:=h.nz;have a2:=h.p0;have a3:=h.p1;have a4:=h.pe;dsimp only at *;omega));go_wp2_with (go_at_call 116;refine(Da lm _).mono ?_;rintro e w9 ⟨rfl,rfl⟩);go_ret;exact⟨by rw[HE.out];rfl,hb1⟩
       by_cases a4:lp=en
       ·have b4:(lp==en)=ae:=by simpa using a4
        have HE:Hid (X=1):=I (by rw[<- HX.out];refine Jn.GD (k:=k) hlt ?_;dsimp only;rw[yL.out];exact Jn.OP O h3 (λh=>h.pe a4));clear a4;go_wp2_with (go_at_call 116;refine(Da lm _).mono ?_;rintro e w9 ⟨rfl,rfl⟩);go_ret;exact⟨by rw[HE.out];rfl,hb1⟩
       have b4:(lp==en)=ag:=by simpa using a4
       have HE:=I (HST.out ((Jn.aaC O h3).2 ⟨HA1.out,kQ,by dsimp only;omega,by dsimp only;omega,a4⟩));have j4:=I kQ;clear kQ a4;go_wp2_with (go_at_call 116;refine(Da lm _).mono ?_;rintro e w9 ⟨rfl,rfl⟩;rw[j4.out]);go_roundw
       case rel=>exact⟨k+1,O,HE.out,by go_num,nO.out,hb1⟩
       case measure=>simp[intOf];omega
      ·have HE:Hid (X=0):=I (by rw[<- HX.out];exact Jn.YL I4.out (λj hj=>HN.out j (by dsimp only at hj;omega) hj));go_wp2_with fail;go_ret;exact⟨by rw[HE.out];rfl,hb⟩
    all_goals
     have HE:Hid (X=1):=I (by
      rw[<- HX.out];refine Jn.Og (λh=> ?_)
      first
       |(cases h.v;done)
       |(have:=h.pl;rw[hpl]at this;cases this;done)
       |(have a1:=h.id;have a2:=h.e0;have a3:=h.e1;have a4:=h.k0;have a5:=h.k1;have a6:=h.Lr;have a7:=h.Lp;have a8:=h.l0;have a9:=h.l1;dsimp only at *;omega))
     (try have jT:=I hpl)
     go_wp2_with
      (first
       |(refine cZ 29 (.tmp 2) rfl (w.heap.size) rfl ai (HB).out bQ hgi ?_)
       |(go_at_call 76;refine(lG.out _ (H.out.step hb)).mono ?_;rintro e w3 ⟨rfl,hb3⟩;have HB3:=I (HB.out.step hb3);have aP:=I (HP.out.step hb3);replace hb:=ay hb hb3;clear hb3;have k0:w3.cell? ⟨w.heap.size+1,0,J⟩=N (G F id):=aP.out.cell 0;have k1:w3.cell? ⟨w.heap.size+1,1,J⟩=N (G F en):=aP.out.cell 1;have k3:w3.cell? ⟨w.heap.size+1,3,J⟩=N (G F kd):=aP.out.cell 3;have k4:w3.cell? ⟨w.heap.size+1,4,J⟩=N (G F fo):=aP.out.cell 4;have k5:w3.cell? ⟨w.heap.size+1,5,J⟩=N (av tx):=aP.out.cell 5;have k6:w3.cell? ⟨w.heap.size+1,6,J⟩=N (T lA ll.length lc):=aP.out.cell 6)
       |(go_at_call 253;refine(O6 tx _ htx).mono ?_;rintro e w9 ⟨rfl,rfl⟩;(try rw[jT.out])))
     go_ret;exact⟨by rw[HE.out];rfl,hb⟩
  all_goals
   have HE:Hid (X=1):=I (by
    rw[<- HX.out];refine Jn.Og (λh=> ?_)
    first
     |(cases h.v;done)
     |(have:=h.pl;rw[hpl]at this;cases this;done)
     |(have a1:=h.id;have a2:=h.e0;have a3:=h.e1;have a4:=h.k0;have a5:=h.k1;have a6:=h.Lr;have a7:=h.Lp;have a8:=h.l0;have a9:=h.l1;dsimp only at *;omega))
   (try have jT:=I hpl)
   go_wp2_with
    (first
     |(refine cZ 29 (.tmp 2) rfl (w.heap.size) rfl ai (HB).out bQ hgi ?_)
     |(go_at_call 76;refine(lG.out _ (H.out.step hb)).mono ?_;rintro e w3 ⟨rfl,hb3⟩;have HB3:=I (HB.out.step hb3);have aP:=I (HP.out.step hb3);replace hb:=ay hb hb3;clear hb3;have k0:w3.cell? ⟨w.heap.size+1,0,J⟩=N (G F id):=aP.out.cell 0;have k1:w3.cell? ⟨w.heap.size+1,1,J⟩=N (G F en):=aP.out.cell 1;have k3:w3.cell? ⟨w.heap.size+1,3,J⟩=N (G F kd):=aP.out.cell 3;have k4:w3.cell? ⟨w.heap.size+1,4,J⟩=N (G F fo):=aP.out.cell 4;have k5:w3.cell? ⟨w.heap.size+1,5,J⟩=N (av tx):=aP.out.cell 5;have k6:w3.cell? ⟨w.heap.size+1,6,J⟩=N (T lA ll.length lc):=aP.out.cell 6)
     |(go_at_call 253;refine(O6 tx _ htx).mono ?_;rintro e w9 ⟨rfl,rfl⟩;(try rw[jT.out])))
   go_ret;exact⟨by rw[HE.out];rfl,hb⟩
 all_goals
  have HE:Hid (X=1):=I (by
   rw[<- HX.out];refine Jn.Og (λh=> ?_)
   first
    |(cases h.v;done)
    |(have:=h.pl;rw[hpl]at this;cases this;done)
    |(have a1:=h.id;have a2:=h.e0;have a3:=h.e1;have a4:=h.k0;have a5:=h.k1;have a6:=h.Lr;have a7:=h.Lp;have a8:=h.l0;have a9:=h.l1;dsimp only at *;omega))
  (try have jT:=I hpl)
  go_wp2_with
   (first
    |(refine cZ 29 (.tmp 2) rfl (w.heap.size) rfl ai (HB).out bQ hgi ?_)
    |(go_at_call 76;refine(lG.out _ (H.out.step hb)).mono ?_;rintro e w3 ⟨rfl,hb3⟩;have HB3:=I (HB.out.step hb3);have aP:=I (HP.out.step hb3);replace hb:=ay hb hb3;clear hb3;have k0:w3.cell? ⟨w.heap.size+1,0,J⟩=N (G F id):=aP.out.cell 0;have k1:w3.cell? ⟨w.heap.size+1,1,J⟩=N (G F en):=aP.out.cell 1;have k3:w3.cell? ⟨w.heap.size+1,3,J⟩=N (G F kd):=aP.out.cell 3;have k4:w3.cell? ⟨w.heap.size+1,4,J⟩=N (G F fo):=aP.out.cell 4;have k5:w3.cell? ⟨w.heap.size+1,5,J⟩=N (av tx):=aP.out.cell 5;have k6:w3.cell? ⟨w.heap.size+1,6,J⟩=N (T lA ll.length lc):=aP.out.cell 6)
    |(go_at_call 253;refine(O6 tx _ htx).mono ?_;rintro e w9 ⟨rfl,rfl⟩;(try rw[jT.out])))
  go_ret;exact⟨by rw[HE.out];rfl,hb⟩
end
namespace Jn
def kB (el:List aY) (e a:Int):Bool:=Ch.eO (el.getD e.toNat default).jw.l a
def dB (Y M P d:Int):Bool:=decide (ax.oP Y M P d=0)
theorem Uq {el:List aY} {i:Nat} (h:i<el.length) (a:Int):kB el (i:Int) a=Ch.eO el[i].jw.l a:=by
 unfold kB;rw[VF,Mv,rq h]
 rfl
end Jn
section
variable (aB:Array aj) (cur:ByteArray) (y m p:Int) (cl:List Acc) (cA:Option aG) (cc:Nat) (ro:dZ) (el:List aY) (eA:Option aG) (ec:Nat) (w:Z) (id en da kd fo:Int) (tx:ByteArray) (ll:List bq) (lA:Option aG) (lc:Nat)
theorem afb (i:Nat) (HG:Hid (aB= #[av cur,G F y,G F m,G F p,T cA cl.length cc,G F ro.dU,G F ro.dR,G F ro.dO,G F ro.inventory,G F ro.reserve,G F ro.dV,G F ro.dJ,G F ro.acquired,G F ro.dX,G F ro.dP,G F ro.dN,G F ro.dQ,G F ro.dW,G F ro.difference,G F ro.dL,T eA el.length ec])) (h:eB w cl cA el eA) (hF:lY cur cl el) (hr:Rd w w.heap.size 3 lA ll.length (cellsOf bq.cells ll)) (hn:ll.length<=1000) (hi:i<el.length):
 aF ak 220 #[az aB,az #[G F id,G F (i:Int),G F da,G F kd,G F fo,av tx,T lA ll.length lc]] w (xM (Jn.wu (Jn.kB el) ⟨id,i,da,kd,fo,tx,⟨ll,lA,lc⟩⟩) w):=by
 have hch:=(hF.EE i hi).1;have hel:=hF.en;have HR:=I hr;obtain⟨b1,o1,hA1,Tw,-,-,g2,-,-⟩:=aY.at_ h.en hi;have hok:=h.ok _ (bP hi);have tH:=I (λa=>Jn.Uq hi a);generalize el[i]=x at*;obtain⟨xn,xu,⟨l1,A1,c1⟩,⟨l2,A2,c2⟩,xj⟩:=x;dsimp only[Sl.val]at*;have hl1:Rd w w.heap.size 4 A1 l1.length (Ch.cells l1):=by have:=hok.2.2.1.1.1;rwa [BR]at this
 have rH:=I hl1;have HG2:=I g2;subst hA1;clear h hF hr hok hl1 g2;have hb:Below w.heap.size w ((w.alloc (U aB 29)).alloc (U #[G F id,G F (i:Int),G F da,G F kd,G F fo,av tx,T lA ll.length lc] 107)):=((aD _ _).alloc (aC _) _).alloc aL _;have HB:=I ((au.new w 29 aB).alloc (U #[G F id,G F (i:Int),G F da,G F kd,G F fo,av tx,T lA ll.length lc] 107));have HP:=I (eT w (U aB 29) 107 #[G F id,G F (i:Int),G F da,G F kd,G F fo,av tx,T lA ll.length lc]);generalize hX:Jn.wu (Jn.kB el) ⟨id,i,da,kd,fo,tx,⟨ll,lA,lc⟩⟩=X at*;have HX:=I hX;clear hX;go_enter Tryz.func220,Tryz.ntmps220;go_upto_region 1 with fail
 generalize (w.alloc (U aB 29)).alloc (U #[G F id,G F (i:Int),G F da,G F kd,G F fo,av tx,T lA ll.length lc] 107)=W at*;have k6:W.cell? ⟨w.heap.size+1,6,J⟩=N (T lA ll.length lc):=HP.out.cell 6;go_wp2_with fail;clear k6;go_loopw [12] (λt wr=> ∃ k:Nat,k<=ll.length/\(∀ j (h:j<k) (h2:j<ll.length),Jn.kB el i (ll[j]'h2).ek=ae)/\t= G F k/\au wr w.heap.size 29 aB/\au wr (w.heap.size+1) 107 #[G F id,G F (i:Int),G F da,G F kd,G F fo,av tx,T lA ll.length lc]/\Below w.heap.size w wr) (λt _=>ll.length - (intOf t).toNat)
 case atStart=>exact⟨0,O,λj h=>O,rfl,HB.out,HP.out,hb⟩
 case round=>
  clear hb HB HP;obtain⟨k,hk,hno,rfl,hB,hP,hb⟩:=hrel;have HN:=I hno;have dY:=I hB;have gD:=I hP;have hz:=hb.size;clear hno hB hP
  by_cases hlt:k<ll.length
  ·obtain⟨b,o,hA,aX,f0,f1,f2⟩:=bq.at_ (Rd.now HR.out hb) hlt;subst hA;have HKK:=I (tH.out ll[k].ek);have HST:Hid (Jn.kB el i ll[k].ek=ae-> ∀ j (h:j<k+1) (h2:j<ll.length),Jn.kB el i (ll[j]'h2).ek=ae):=I (λhq j h h1=>by
    by_cases e:j=k
    ·subst e;exact hq
    ·exact HN.out j O h1)
   have eH:=I (λ(h:Jn.kB el i ll[k].ek=ag)=>Jn.Yg (K:=Jn.kB el) (x:=⟨id,i,da,kd,fo,tx,⟨ll,N ⟨b,o,J⟩,lc⟩⟩) (k:=k) hlt h);generalize ll[k]=u at*;obtain⟨la,lm,lp⟩:=u;dsimp only at*;have hst:=(aD wr.heap.size wr).alloc (aC _) (U #[G F la,G F lm,G F lp] 131);have HL:=I (au.new wr 131 #[G F la,G F lm,G F lp]);replace dY:=I (dY.out.step hst);replace gD:=I (gD.out.step hst);replace hb:=ay hb hst;go_upto_region 4 with fail
   generalize wr.alloc (U #[G F la,G F lm,G F lp] 131)=wo at*;have q0: ∀ d:Later wo,d.now.cell? ⟨w.heap.size,20,J⟩=N (T (N ⟨b1,o1,J⟩) el.length ec):=λd=>d.cell dY.out.lt ((dY.out.cell 20).trans aQ)
   have q1: ∀ d:Later wo,d.now.cell? ⟨w.heap.size+1,1,J⟩=N (G F (i:Int)):=λd=>d.cell gD.out.lt (gD.out.cell 1)
   have q2: ∀ d:Later wo,d.now.cell? ⟨b1,o1+i*5+2,J⟩=N (T A1 l1.length c1):=λd=>((ay hb d.below).cell (p:=⟨b1,o1+i*5+2,J⟩) Tw).trans HG2.out
   have q3: ∀ d:Later wo,d.now.cell? ⟨wr.heap.size,0,J⟩=N (G F la):=λd=>d.cell HL.out.lt (HL.out.cell 0)
   have K2:=I (λW h=>JU l1 la A1 c1 W h hch);unfold MS Ch.val at K2;rw[<- HKK.out]at K2;generalize Ch.bU l1 la=a at*;generalize Jn.kB el i la=fb at*;clear f0 f1 f2;go_cut [7,8] (λs6 s7 wx=> ∃ g:Nat,s6= aN (N ⟨g,0,J⟩)/\s7= .bool fb/\au wx g 212 #[G F a.code,G F a.kind,G F a.basis,G F a.parent]/\Below wo.heap.size wo wx)
   case first=>
    refine AZ (n:=16) (wo) ai rfl ?_;have hC:=gH.drew (wo);have hT:=tg 0;(iterate 9 first|(refine aac hT hC ?_;clear hT;intro hT K hK;go_big_quiet_op;go_big_quiet_on)|(refine aaB hT hC ?_;clear hT;intro hT;simp only[Zx]));clear hT;refine UU (is:= [9,13]) ai aL ?_;intro j hj;simp only[fT,lV,lW]at hj
    rcases hj with rfl|rfl
    ·refine⟨_,rfl,rfl,?_⟩;intro K hK;go_simp;go_at_call 114;refine(K2.out _ (Rd.now rH.out (ay hb hC.below))).mono ?_;rintro e w5 ⟨rfl,hb5⟩
     (try go_wp2_with fail)
     replace hC:=hC.on hb5;refine hK _ _ hC (λ_=> ?_);clear hK K
     (try simp only[Zx])
     have hT:=tg 10;(iterate 3 first|(refine aac hT hC ?_;clear hT;intro hT K hK;go_big_quiet_op;go_big_quiet_on)|(refine aaB hT hC ?_;clear hT;intro hT;simp only[Zx]));clear hT;have nX:=hC.below;refine mW (i:=13) ai rfl rfl ?_;intro K hK;go_simp;have hC2:=hC.below;refine hK _ _ (gH.of (by repeat (first|exact hC2|refine Below.alloc ?_ (by have hbs:=hC2.size;first|omega|(simp;done)|(simp at hbs |-;omega)) _|refine Below.drew ?_|refine iC ?_ _))) ?_;clear hK K hC hC2;intro hC;(try simp only[Zx]);refine mW (i:=14) ai rfl rfl ?_;intro K hK;go_simp;refine hK _ _ (gH.of (nX.alloc nX.size _)) ?_;clear hK K hC;intro hC
     (try simp only[Zx])
     (first|(refine aqx 15 hC ?_;intro K hK;go_big_quiet_op;go_big_quiet_on)|(refine aqw 15 hC ?_;simp only[Zx]))
     refine wpAnyH_done ai ?_ _;go_wp2_with fail;go_meet;exact⟨w5.heap.size,rfl,rfl,au.new w5 _ _,nX.alloc nX.size _⟩
    ·refine⟨_,rfl,rfl,?_⟩;intro K hK;go_simp;have J6:Below (wo).heap.size (wo) ((wo).alloc (U #[G F 0,G F 0,G F 0,G F 0] 212)).drew:=((aD _ _).alloc (aC _) _).drew;have hX:=(au.new (wo) 212 #[G F 0,G F 0,G F 0,G F 0]).drew;refine hK _ _ (gH.of J6) (λhC=> ?_);clear hK K;generalize ((wo).alloc (U #[G F 0,G F 0,G F 0,G F 0] 212)).drew=w4 at*
     (try simp only[Zx])
     refine mW (i:=9) ai rfl rfl ?_;intro K hK;go_simp;go_at_call 114;refine(K2.out _ (Rd.now rH.out (ay hb hC.below))).mono ?_;rintro e w5 ⟨rfl,hb5⟩
     (try go_wp2_with fail)
     replace hC:=hC.on hb5;replace hX:=hX.step hb5;refine hK _ _ hC (λ_=> ?_);clear hK K
     (try simp only[Zx])
     have hT:=tg 10;(iterate 3 first|(refine aac hT hC ?_;clear hT;intro hT K hK;go_big_quiet_op;go_big_quiet_on)|(refine aaB hT hC ?_;clear hT;intro hT;simp only[Zx]));clear hT;refine mW (i:=14) ai rfl rfl ?_;intro K hK;have g0:w5.cell? ⟨(wo).heap.size,0,J⟩=N (G F 0):=hX.cell 0;have g1:w5.cell? ⟨(wo).heap.size,1,J⟩=N (G F 0):=hX.cell 1;have g2:w5.cell? ⟨(wo).heap.size,2,J⟩=N (G F 0):=hX.cell 2;have g3:w5.cell? ⟨(wo).heap.size,3,J⟩=N (G F 0):=hX.cell 3;have h0:w5.frozen? ⟨(wo).heap.size,0,J⟩=ag:=hX.frozen 0;have h1:w5.frozen? ⟨(wo).heap.size,1,J⟩=ag:=hX.frozen 1;have h2:w5.frozen? ⟨(wo).heap.size,2,J⟩=ag:=hX.frozen 2;have h3:w5.frozen? ⟨(wo).heap.size,3,J⟩=ag:=hX.frozen 3;go_simp;have hZ:Below (wo).heap.size (wo) ((((w5.setCell ⟨(wo).heap.size,0,J⟩ (G F a.code)).setCell ⟨(wo).heap.size,1,J⟩ (G F a.kind)).setCell ⟨(wo).heap.size,2,J⟩ (G F a.basis)).setCell ⟨(wo).heap.size,3,J⟩ (G F a.parent)):=
      (((hC.below.setCell aL _).setCell aL _).setCell aL _).setCell aL _
     have hY:=(((hX.bZ 0 (G F a.code)).bZ 1 (G F a.kind)).bZ 2 (G F a.basis)).bZ 3 (G F a.parent);refine hK _ _ (gH.of hZ) ?_;clear hC;intro hC;clear hK K g0 g1 g2 g3 h0 h1 h2 h3;generalize ((((w5.setCell ⟨(wo).heap.size,0,J⟩ (G F a.code)).setCell ⟨(wo).heap.size,1,J⟩ (G F a.kind)).setCell ⟨(wo).heap.size,2,J⟩ (G F a.basis)).setCell ⟨(wo).heap.size,3,J⟩ (G F a.parent))=w6 at*
     (try simp only[Zx])
     (first|(refine aqx 15 hC ?_;intro K hK;go_big_quiet_op;go_big_quiet_on)|(refine aqw 15 hC ?_;simp only[Zx]))
     refine wpAnyH_done ai ?_ _;go_wp2_with fail;go_meet;exact⟨(wo).heap.size,rfl,rfl,hY,hZ⟩
   case rest=>
    obtain⟨g,rfl,rfl,Au,ah⟩:=hcut;have hbx:=ay hb ah;have oW:=I (dY.out.step ah);have Ea:=I (gD.out.step ah);clear q0 q1 q2 q3 Au
    cases fb
    ·have HE:Hid (X=17):=I (by rw[<- HX.out];exact eH.out rfl);go_wp2_with fail;go_ret;exact⟨by rw[HE.out];rfl,hbx⟩
    ·have HE:=I (HST.out rfl);go_wp2_with fail;go_roundw
     case rel=>exact⟨k+1,O,HE.out,by go_num,oW.out,Ea.out,hbx⟩
     case measure=>simp[intOf];omega
  ·have HE:Hid (X=0):=I (by rw[<- HX.out];exact Jn.afa (λj hj=>HN.out j (by dsimp only at hj;omega) hj));go_wp2_with fail;go_ret;exact⟨by rw[HE.out];rfl,hb⟩
theorem afL (HG:Hid (aB= #[av cur,G F y,G F m,G F p,T cA cl.length cc,G F ro.dU,G F ro.dR,G F ro.dO,G F ro.inventory,G F ro.reserve,G F ro.dV,G F ro.dJ,G F ro.acquired,G F ro.dX,G F ro.dP,G F ro.dN,G F ro.dQ,G F ro.dW,G F ro.difference,G F ro.dL,T eA el.length ec])):
 aF ak 221 #[az aB,az #[G F id,G F en,G F da,G F kd,G F fo,av tx,T lA ll.length lc]] w (xM (Jn.Ck (Jn.dB y m p) ⟨id,en,da,kd,fo,tx,⟨ll,lA,lc⟩⟩) w):=by
 have hb:Below w.heap.size w ((w.alloc (U aB 29)).alloc (U #[G F id,G F en,G F da,G F kd,G F fo,av tx,T lA ll.length lc] 107)):=((aD _ _).alloc (aC _) _).alloc aL _;have HB:=I ((au.new w 29 aB).alloc (U #[G F id,G F en,G F da,G F kd,G F fo,av tx,T lA ll.length lc] 107));have HP:=I (eT w (U aB 29) 107 #[G F id,G F en,G F da,G F kd,G F fo,av tx,T lA ll.length lc]);have HX:Hid (Jn.Ck (Jn.dB y m p) ⟨id,en,da,kd,fo,tx,⟨ll,lA,lc⟩⟩=if ax.oP y m p da=0 then 0 else 2):=I (by unfold Jn.Ck Jn.dB;simp);generalize Jn.Ck (Jn.dB y m p) ⟨id,en,da,kd,fo,tx,⟨ll,lA,lc⟩⟩=X at*;have K:=I (λW=>Yb y m p da W);generalize ax.oP y m p da=e1 at*;generalize ax.mD y m p da=v1 at*;go_enter Tryz.func221,Tryz.ntmps221;go_upto_region 1 with fail
 generalize (w.alloc (U aB 29)).alloc (U #[G F id,G F en,G F da,G F kd,G F fo,av tx,T lA ll.length lc] 107)=W at*;have k2:W.cell? ⟨w.heap.size+1,2,J⟩=N (G F da):=HP.out.cell 2;have g1:W.cell? ⟨w.heap.size,1,J⟩=N (G F y):=(HB.out.cell 1).trans aQ;have g2:W.cell? ⟨w.heap.size,2,J⟩=N (G F m):=(HB.out.cell 2).trans aQ;have g3:W.cell? ⟨w.heap.size,3,J⟩=N (G F p):=(HB.out.cell 3).trans aQ
 cases hx:(e1 !=0)
 ·have h0:e1=0:=by simpa using hx
  have HE:Hid (X=0):=I (by rw[HX.out,bB h0]);clear h0;go_wp2_with (go_at_call 159;refine(K.out _).mono ?_;rintro e w5 ⟨rfl,ah⟩;have hb5:=ay hb ah;clear ah);go_ret;exact⟨by rw[HE.out];rfl,hb5⟩
 ·have h0:e1≠0:=by simpa using hx
  have HE:Hid (X=2):=I (by rw[HX.out,bE h0]);clear h0;go_wp2_with (go_at_call 159;refine(K.out _).mono ?_;rintro e w5 ⟨rfl,ah⟩;have hb5:=ay hb ah;clear ah);go_ret;exact⟨by rw[HE.out];rfl,hb5⟩
theorem aeC (hr:Rd w w.heap.size 3 lA ll.length (cellsOf bq.cells ll)) (hn:ll.length<=1000) (hm: ∀ x∈ll,-1000000000000<=x.amount/\x.amount<=1000000000000):
 aF ak 222 #[az aB,az #[G F id,G F en,G F da,G F kd,G F fo,av tx,T lA ll.length lc]] w (xM (Jn.Eu ⟨id,en,da,kd,fo,tx,⟨ll,lA,lc⟩⟩) w):=by
 have hb:Below w.heap.size w ((w.alloc (U aB 29)).alloc (U #[G F id,G F en,G F da,G F kd,G F fo,av tx,T lA ll.length lc] 107)):=((aD _ _).alloc (aC _) _).alloc aL _;have HP:=I (eT w (U aB 29) 107 #[G F id,G F en,G F da,G F kd,G F fo,av tx,T lA ll.length lc]);have HX:Hid (Jn.Eu ⟨id,en,da,kd,fo,tx,⟨ll,lA,lc⟩⟩=if Jn.nL ll=0 then 0 else 11):=I rfl;generalize Jn.Eu ⟨id,en,da,kd,fo,tx,⟨ll,lA,lc⟩⟩=X at*;have HR:=I hr;have K:=I (λW h=>aj9 ll lA lc W h hn hm);clear hr hm;generalize Jn.nL ll=s at*;go_enter Tryz.func222,Tryz.ntmps222;go_upto_region 1 with fail
 generalize (w.alloc (U aB 29)).alloc (U #[G F id,G F en,G F da,G F kd,G F fo,av tx,T lA ll.length lc] 107)=W at*;have k6:W.cell? ⟨w.heap.size+1,6,J⟩=N (T lA ll.length lc):=HP.out.cell 6
 cases hx:(s !=0)
 ·have h0:s=0:=by simpa using hx
  have HE:Hid (X=0):=I (by rw[HX.out,bB h0]);clear h0;go_wp2_with (go_at_call 254;refine(K.out _ (Rd.now HR.out hb)).mono ?_;rintro e w5 ⟨rfl,ah⟩;have hb5:=ay hb ah;clear ah);go_ret;exact⟨by rw[HE.out];rfl,hb5⟩
 ·have h0:s≠0:=by simpa using hx
  have HE:Hid (X=11):=I (by rw[HX.out,bE h0]);clear h0;go_wp2_with (go_at_call 254;refine(K.out _ (Rd.now HR.out hb)).mono ?_;rintro e w5 ⟨rfl,ah⟩;have hb5:=ay hb ah;clear ah);go_ret;exact⟨by rw[HE.out];rfl,hb5⟩
end
end Go.Proofs.YtbedbfdhfokifaaGreat
