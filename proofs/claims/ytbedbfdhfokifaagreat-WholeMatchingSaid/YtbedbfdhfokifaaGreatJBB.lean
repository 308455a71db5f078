/- Part of the proof of WholeMatching. -/
import Derived.Test.YtbedbfdhfokifaaGreatJAV
import Derived.Test.YtbedbfdhfokifaaGreatJAY
namespace Go.Proofs.YtbedbfdhfokifaaGreat
set_option maxRecDepth 100000
set_option maxHeartbeats 16000000
set_option linter.unusedVariables false
set_option linter.unusedSimpArgs false
open _root_.Bool renaming true->ae,false->ag
open Go renaming World->Z,Calls->aF,Addr->aG,Value->aj,maxLen->bK
open Go.IntKind renaming i64->F
open Go.Obj renaming cells->U
open Go.Proofs.Tryz renaming prog->ak
open Go.Value renaming int->G,slice->T,string->av,agg->az
open _root_.Option renaming none->J,some->N
open Go.RowKit
namespace Jn
theorem tQ {V:Bool} {n:Int} {x:aI} (h: ¬ Ab V n x):lJ V n x=ag:=by
 have:=Og h;unfold nW at this
 cases hf:lJ V n x
 ·rfl
 ·rw[hf]at this;simp at this
theorem YM {V:Bool} {n:Int} {x:aI} {k:Nat} (hk:k<x.lines.l.length) (h:jc n x.bF x.lines.l[k]=ag):lJ V n x=ag:=by
 have:=GD (V:=V) hk h;unfold nW at this
 cases hf:lJ V n x
 ·rfl
 ·rw[hf]at this;simp at this
theorem YN {V:Bool} {n:Int} {x:aI} (h:Ab V n x) (h2: ∀ k (hk:k<x.lines.l.length),jc n x.bF x.lines.l[k]=ae):lJ V n x=ae:=by
 have:=YL h h2;unfold nW at this
 cases hf:lJ V n x
 ·rw[hf]at this;simp at this
 ·rfl
end Jn
section
variable (aB:Array aj) (cur:ByteArray) (y m p:Int) (cl:List Acc) (cA:Option aG) (cc:Nat) (ro:dZ) (el:List aY) (eA:Option aG) (ec:Nat) (w:Z) (id en da kd fo:Int) (tx:ByteArray) (ll:List bq) (lA:Option aG) (lc:Nat)
theorem abI (HG:Hid (aB= #[av cur,G F y,G F m,G F p,T cA cl.length cc,G F ro.dU,G F ro.dR,G F ro.dO,G F ro.inventory,G F ro.reserve,G F ro.dV,G F ro.dJ,G F ro.acquired,G F ro.dX,G F ro.dP,G F ro.dN,G F ro.dQ,G F ro.dW,G F ro.difference,G F ro.dL,T eA el.length ec])) (la lm lp:Int):aF ak 247 #[az aB,G F en,az #[G F la,G F lm,G F lp]] w (fD (Jn.jc el.length en ⟨la,lm,lp⟩) w):=by
 have hb:Below w.heap.size w ((w.alloc (U aB 29)).alloc (U #[G F la,G F lm,G F lp] 131)):=((aD _ _).alloc (aC _) _).alloc aL _;have HB:=I ((au.new w 29 aB).alloc (U #[G F la,G F lm,G F lp] 131));have HL:=I (eT w (U aB 29) 131 #[G F la,G F lm,G F lp]);have HD:Hid (Jn.jc el.length en ⟨la,lm,lp⟩=(!(lm==0)&&pF lm&&(decide (lp= -1)||decide (0<=lp)&&decide (lp<(el.length:Int))&& !(lp==en)))):=I rfl;generalize Jn.jc el.length en ⟨la,lm,lp⟩=X at*;go_enter Tryz.func247,Tryz.ntmps247;go_upto_region 1 with fail
 generalize (w.alloc (U aB 29)).alloc (U #[G F la,G F lm,G F lp] 131)=W at*;have l1:W.cell? ⟨w.heap.size+1,1,J⟩=N (G F lm):=HL.out.cell 1;have l2:W.cell? ⟨w.heap.size+1,2,J⟩=N (G F lp):=HL.out.cell 2;have g20:W.cell? ⟨w.heap.size,20,J⟩=N (T eA el.length ec):=(HB.out.cell 20).trans aQ
 cases a1:(lm==0)
 ·cases kQ:pF lm
  ·have HE:Hid (X=ag):=I (by rw[HD.out,kQ];simp);have j4:=I kQ;clear kQ;go_wp2_with (go_at_call 274;refine(Fv lm _).mono ?_;rintro e w9 ⟨rfl,rfl⟩;(try rw[j4.out]));go_ret;exact⟨by rw[HE.out];rfl,hb⟩
  ·rw[a1,kQ]at HD;have j4:=I kQ;clear kQ
   cases b1:(lp== -1)
   ·have b1':decide (lp= -1)=ag:=by simpa using b1
    rw[b1']at HD;clear b1'
    by_cases b2:0<=lp
    ·by_cases b3:lp<(el.length:Int)
     ·cases b4:(lp==en)
      ·have b4':(lp !=en)=ae:=by simpa using b4
       have HE:Hid (X=ae):=I (by rw[HD.out,b4];simp[b2,b3]);clear b4;go_wp2_with (go_at_call 274;refine(Fv lm _).mono ?_;rintro e w9 ⟨rfl,rfl⟩;(try rw[j4.out]));go_ret;exact⟨by rw[HE.out];rfl,hb⟩
      ·have b4':(lp !=en)=ag:=by simpa using b4
       have HE:Hid (X=ag):=I (by rw[HD.out,b4];simp);clear b4;go_wp2_with (go_at_call 274;refine(Fv lm _).mono ?_;rintro e w9 ⟨rfl,rfl⟩;(try rw[j4.out]));go_ret;exact⟨by rw[HE.out];rfl,hb⟩
     ·have HE:Hid (X=ag):=I (by rw[HD.out];simp[b3]);go_wp2_with (go_at_call 274;refine(Fv lm _).mono ?_;rintro e w9 ⟨rfl,rfl⟩;(try rw[j4.out]));go_ret;exact⟨by rw[HE.out];rfl,hb⟩
    ·have HE:Hid (X=ag):=I (by rw[HD.out];simp[b2]);go_wp2_with (go_at_call 274;refine(Fv lm _).mono ?_;rintro e w9 ⟨rfl,rfl⟩;(try rw[j4.out]));go_ret;exact⟨by rw[HE.out];rfl,hb⟩
   ·have b1':decide (lp= -1)=ae:=by simpa using b1
    have HE:Hid (X=ae):=I (by rw[HD.out,b1'];rfl);clear b1';go_wp2_with (go_at_call 274;refine(Fv lm _).mono ?_;rintro e w9 ⟨rfl,rfl⟩;(try rw[j4.out]));go_ret;exact⟨by rw[HE.out];rfl,hb⟩
 ·have HE:Hid (X=ag):=I (by rw[HD.out,a1];rfl);go_wp2_with (go_at_call 274;refine(Fv lm _).mono ?_;rintro e w9 ⟨rfl,rfl⟩;(try rw[j4.out]));go_ret;exact⟨by rw[HE.out];rfl,hb⟩
theorem anT (HG:Hid (aB= #[av cur,G F y,G F m,G F p,T cA cl.length cc,G F ro.dU,G F ro.dR,G F ro.dO,G F ro.inventory,G F ro.reserve,G F ro.dV,G F ro.dJ,G F ro.acquired,G F ro.dX,G F ro.dP,G F ro.dN,G F ro.dQ,G F ro.dW,G F ro.difference,G F ro.dL,T eA el.length ec])) (h:eB w cl cA el eA) (hF:lY cur cl el) (htx:tx.size<=bK) (hr:Rd w w.heap.size 3 lA ll.length (cellsOf bq.cells ll)) (hn:ll.length<=1000):
 aF ak 199 #[az aB,az #[G F id,G F en,G F da,G F kd,G F fo,av tx,T lA ll.length lc]] w (fD (Jn.lJ (Gr.gv cur cl ro el (ax.ok y m p)) el.length ⟨id,en,da,kd,fo,tx,⟨ll,lA,lc⟩⟩) w):=by
 have hel:=hF.en;have H:=I h;have HR:=I hr;have lG:=I (λW (h:eB W cl cA el eA)=>abG aB cur y m p cl cA cc ro el eA ec W HG h hF);clear h hF hr;have hgi:(ak.info? 29).map (·.size)=N aB.size:=by rw[HG.out];exact gy
 have hb:Below w.heap.size w ((w.alloc (U aB 29)).alloc (U #[G F id,G F en,G F da,G F kd,G F fo,av tx,T lA ll.length lc] 107)):=((aD _ _).alloc (aC _) _).alloc aL _;have HB:=I ((au.new w 29 aB).alloc (U #[G F id,G F en,G F da,G F kd,G F fo,av tx,T lA ll.length lc] 107));have HP:=I (eT w (U aB 29) 107 #[G F id,G F en,G F da,G F kd,G F fo,av tx,T lA ll.length lc]);generalize Gr.gv cur cl ro el (ax.ok y m p)=V at*;generalize hX:Jn.lJ V el.length ⟨id,en,da,kd,fo,tx,⟨ll,lA,lc⟩⟩=X at*;have HX:=I hX;clear hX;go_enter Tryz.func199,Tryz.ntmps199;go_upto_region 1 with fail
 generalize (w.alloc (U aB 29)).alloc (U #[G F id,G F en,G F da,G F kd,G F fo,av tx,T lA ll.length lc] 107)=W at*
 cases V
 ·have HE:Hid (X=ag):=I (by rw[<- HX.out];exact Jn.tQ (λh=>by cases h.v));go_wp2_with
   (first
    |(refine cZ 29 (.tmp 2) rfl (w.heap.size) rfl ai (HB).out bQ hgi ?_)
    |(go_at_call 89;refine(lG.out _ (H.out.step hb)).mono ?_;rintro e w3 ⟨rfl,hb3⟩;have HB3:=I (HB.out.step hb3);have aP:=I (HP.out.step hb3);replace hb:=ay hb hb3;clear hb3;have k0:w3.cell? ⟨w.heap.size+1,0,J⟩=N (G F id):=aP.out.cell 0;have k1:w3.cell? ⟨w.heap.size+1,1,J⟩=N (G F en):=aP.out.cell 1;have k3:w3.cell? ⟨w.heap.size+1,3,J⟩=N (G F kd):=aP.out.cell 3;have k4:w3.cell? ⟨w.heap.size+1,4,J⟩=N (G F fo):=aP.out.cell 4;have k5:w3.cell? ⟨w.heap.size+1,5,J⟩=N (av tx):=aP.out.cell 5;have k6:w3.cell? ⟨w.heap.size+1,6,J⟩=N (T lA ll.length lc):=aP.out.cell 6;have g20:w3.cell? ⟨w.heap.size,20,J⟩=N (T eA el.length ec):=(HB3.out.cell 20).trans aQ)
    |(go_at_call 246;refine(qZ tx _ htx).mono ?_;rintro e w9 ⟨rfl,rfl⟩;(try rw[jT.out])))
  go_ret;exact⟨by rw[HE.out];rfl,hb⟩
 by_cases h1:id<1
 ·have HE:Hid (X=ag):=I (by rw[<- HX.out];exact Jn.tQ (λh=>by have a1:=h.id;have a2:=h.e0;have a3:=h.e1;have a4:=h.k0;have a5:=h.k1;have a8:=h.l0;have a9:=h.l1;dsimp only at *;omega));go_wp2_with
   (first
    |(refine cZ 29 (.tmp 2) rfl (w.heap.size) rfl ai (HB).out bQ hgi ?_)
    |(go_at_call 89;refine(lG.out _ (H.out.step hb)).mono ?_;rintro e w3 ⟨rfl,hb3⟩;have HB3:=I (HB.out.step hb3);have aP:=I (HP.out.step hb3);replace hb:=ay hb hb3;clear hb3;have k0:w3.cell? ⟨w.heap.size+1,0,J⟩=N (G F id):=aP.out.cell 0;have k1:w3.cell? ⟨w.heap.size+1,1,J⟩=N (G F en):=aP.out.cell 1;have k3:w3.cell? ⟨w.heap.size+1,3,J⟩=N (G F kd):=aP.out.cell 3;have k4:w3.cell? ⟨w.heap.size+1,4,J⟩=N (G F fo):=aP.out.cell 4;have k5:w3.cell? ⟨w.heap.size+1,5,J⟩=N (av tx):=aP.out.cell 5;have k6:w3.cell? ⟨w.heap.size+1,6,J⟩=N (T lA ll.length lc):=aP.out.cell 6;have g20:w3.cell? ⟨w.heap.size,20,J⟩=N (T eA el.length ec):=(HB3.out.cell 20).trans aQ)
    |(go_at_call 246;refine(qZ tx _ htx).mono ?_;rintro e w9 ⟨rfl,rfl⟩;(try rw[jT.out])))
  go_ret;exact⟨by rw[HE.out];rfl,hb⟩
 by_cases h2:en<0
 ·have HE:Hid (X=ag):=I (by rw[<- HX.out];exact Jn.tQ (λh=>by have a1:=h.id;have a2:=h.e0;have a3:=h.e1;have a4:=h.k0;have a5:=h.k1;have a8:=h.l0;have a9:=h.l1;dsimp only at *;omega));go_wp2_with
   (first
    |(refine cZ 29 (.tmp 2) rfl (w.heap.size) rfl ai (HB).out bQ hgi ?_)
    |(go_at_call 89;refine(lG.out _ (H.out.step hb)).mono ?_;rintro e w3 ⟨rfl,hb3⟩;have HB3:=I (HB.out.step hb3);have aP:=I (HP.out.step hb3);replace hb:=ay hb hb3;clear hb3;have k0:w3.cell? ⟨w.heap.size+1,0,J⟩=N (G F id):=aP.out.cell 0;have k1:w3.cell? ⟨w.heap.size+1,1,J⟩=N (G F en):=aP.out.cell 1;have k3:w3.cell? ⟨w.heap.size+1,3,J⟩=N (G F kd):=aP.out.cell 3;have k4:w3.cell? ⟨w.heap.size+1,4,J⟩=N (G F fo):=aP.out.cell 4;have k5:w3.cell? ⟨w.heap.size+1,5,J⟩=N (av tx):=aP.out.cell 5;have k6:w3.cell? ⟨w.heap.size+1,6,J⟩=N (T lA ll.length lc):=aP.out.cell 6;have g20:w3.cell? ⟨w.heap.size,20,J⟩=N (T eA el.length ec):=(HB3.out.cell 20).trans aQ)
    |(go_at_call 246;refine(qZ tx _ htx).mono ?_;rintro e w9 ⟨rfl,rfl⟩;(try rw[jT.out])))
  go_ret;exact⟨by rw[HE.out];rfl,hb⟩
 by_cases h4:(el.length:Int)<=en
 ·have HE:Hid (X=ag):=I (by rw[<- HX.out];exact Jn.tQ (λh=>by have a1:=h.id;have a2:=h.e0;have a3:=h.e1;have a4:=h.k0;have a5:=h.k1;have a8:=h.l0;have a9:=h.l1;dsimp only at *;omega));go_wp2_with
   (first
    |(refine cZ 29 (.tmp 2) rfl (w.heap.size) rfl ai (HB).out bQ hgi ?_)
    |(go_at_call 89;refine(lG.out _ (H.out.step hb)).mono ?_;rintro e w3 ⟨rfl,hb3⟩;have HB3:=I (HB.out.step hb3);have aP:=I (HP.out.step hb3);replace hb:=ay hb hb3;clear hb3;have k0:w3.cell? ⟨w.heap.size+1,0,J⟩=N (G F id):=aP.out.cell 0;have k1:w3.cell? ⟨w.heap.size+1,1,J⟩=N (G F en):=aP.out.cell 1;have k3:w3.cell? ⟨w.heap.size+1,3,J⟩=N (G F kd):=aP.out.cell 3;have k4:w3.cell? ⟨w.heap.size+1,4,J⟩=N (G F fo):=aP.out.cell 4;have k5:w3.cell? ⟨w.heap.size+1,5,J⟩=N (av tx):=aP.out.cell 5;have k6:w3.cell? ⟨w.heap.size+1,6,J⟩=N (T lA ll.length lc):=aP.out.cell 6;have g20:w3.cell? ⟨w.heap.size,20,J⟩=N (T eA el.length ec):=(HB3.out.cell 20).trans aQ)
    |(go_at_call 246;refine(qZ tx _ htx).mono ?_;rintro e w9 ⟨rfl,rfl⟩;(try rw[jT.out])))
  go_ret;exact⟨by rw[HE.out];rfl,hb⟩
 by_cases h5:kd<1
 ·have HE:Hid (X=ag):=I (by rw[<- HX.out];exact Jn.tQ (λh=>by have a1:=h.id;have a2:=h.e0;have a3:=h.e1;have a4:=h.k0;have a5:=h.k1;have a8:=h.l0;have a9:=h.l1;dsimp only at *;omega));go_wp2_with
   (first
    |(refine cZ 29 (.tmp 2) rfl (w.heap.size) rfl ai (HB).out bQ hgi ?_)
    |(go_at_call 89;refine(lG.out _ (H.out.step hb)).mono ?_;rintro e w3 ⟨rfl,hb3⟩;have HB3:=I (HB.out.step hb3);have aP:=I (HP.out.step hb3);replace hb:=ay hb hb3;clear hb3;have k0:w3.cell? ⟨w.heap.size+1,0,J⟩=N (G F id):=aP.out.cell 0;have k1:w3.cell? ⟨w.heap.size+1,1,J⟩=N (G F en):=aP.out.cell 1;have k3:w3.cell? ⟨w.heap.size+1,3,J⟩=N (G F kd):=aP.out.cell 3;have k4:w3.cell? ⟨w.heap.size+1,4,J⟩=N (G F fo):=aP.out.cell 4;have k5:w3.cell? ⟨w.heap.size+1,5,J⟩=N (av tx):=aP.out.cell 5;have k6:w3.cell? ⟨w.heap.size+1,6,J⟩=N (T lA ll.length lc):=aP.out.cell 6;have g20:w3.cell? ⟨w.heap.size,20,J⟩=N (T eA el.length ec):=(HB3.out.cell 20).trans aQ)
    |(go_at_call 246;refine(qZ tx _ htx).mono ?_;rintro e w9 ⟨rfl,rfl⟩;(try rw[jT.out])))
  go_ret;exact⟨by rw[HE.out];rfl,hb⟩
 by_cases h6:3<kd
 ·have HE:Hid (X=ag):=I (by rw[<- HX.out];exact Jn.tQ (λh=>by have a1:=h.id;have a2:=h.e0;have a3:=h.e1;have a4:=h.k0;have a5:=h.k1;have a8:=h.l0;have a9:=h.l1;dsimp only at *;omega));go_wp2_with
   (first
    |(refine cZ 29 (.tmp 2) rfl (w.heap.size) rfl ai (HB).out bQ hgi ?_)
    |(go_at_call 89;refine(lG.out _ (H.out.step hb)).mono ?_;rintro e w3 ⟨rfl,hb3⟩;have HB3:=I (HB.out.step hb3);have aP:=I (HP.out.step hb3);replace hb:=ay hb hb3;clear hb3;have k0:w3.cell? ⟨w.heap.size+1,0,J⟩=N (G F id):=aP.out.cell 0;have k1:w3.cell? ⟨w.heap.size+1,1,J⟩=N (G F en):=aP.out.cell 1;have k3:w3.cell? ⟨w.heap.size+1,3,J⟩=N (G F kd):=aP.out.cell 3;have k4:w3.cell? ⟨w.heap.size+1,4,J⟩=N (G F fo):=aP.out.cell 4;have k5:w3.cell? ⟨w.heap.size+1,5,J⟩=N (av tx):=aP.out.cell 5;have k6:w3.cell? ⟨w.heap.size+1,6,J⟩=N (T lA ll.length lc):=aP.out.cell 6;have g20:w3.cell? ⟨w.heap.size,20,J⟩=N (T eA el.length ec):=(HB3.out.cell 20).trans aQ)
    |(go_at_call 246;refine(qZ tx _ htx).mono ?_;rintro e w9 ⟨rfl,rfl⟩;(try rw[jT.out])))
  go_ret;exact⟨by rw[HE.out];rfl,hb⟩
 have h3:0<=en:=O
 by_cases h7:kd=3
 ·have e7:(kd==3)=ae:=by simpa using h7
  have e8:(kd !=3)=ag:=by simpa using h7
  have HK:=I h7;clear h7
  by_cases h77:fo<1
  ·have HE:Hid (X=ag):=I (by rw[<- HX.out];exact Jn.tQ (λh=>by have:=h.Lr HK.out;dsimp only at this;omega));go_wp2_with
    (first
     |(refine cZ 29 (.tmp 2) rfl (w.heap.size) rfl ai (HB).out bQ hgi ?_)
     |(go_at_call 89;refine(lG.out _ (H.out.step hb)).mono ?_;rintro e w3 ⟨rfl,hb3⟩;have HB3:=I (HB.out.step hb3);have aP:=I (HP.out.step hb3);replace hb:=ay hb hb3;clear hb3;have k0:w3.cell? ⟨w.heap.size+1,0,J⟩=N (G F id):=aP.out.cell 0;have k1:w3.cell? ⟨w.heap.size+1,1,J⟩=N (G F en):=aP.out.cell 1;have k3:w3.cell? ⟨w.heap.size+1,3,J⟩=N (G F kd):=aP.out.cell 3;have k4:w3.cell? ⟨w.heap.size+1,4,J⟩=N (G F fo):=aP.out.cell 4;have k5:w3.cell? ⟨w.heap.size+1,5,J⟩=N (av tx):=aP.out.cell 5;have k6:w3.cell? ⟨w.heap.size+1,6,J⟩=N (T lA ll.length lc):=aP.out.cell 6;have g20:w3.cell? ⟨w.heap.size,20,J⟩=N (T eA el.length ec):=(HB3.out.cell 20).trans aQ)
     |(go_at_call 246;refine(qZ tx _ htx).mono ?_;rintro e w9 ⟨rfl,rfl⟩;(try rw[jT.out])))
   go_ret;exact⟨by rw[HE.out];rfl,hb⟩
  have F9:Hid ((kd=3->1<=fo)/\(kd≠3->fo=0)):=I ⟨λ_=>O,λh=>absurd HK.out h⟩
  cases hpl:Jn.jH tx
  ·have HE:Hid (X=ag):=I (by rw[<- HX.out];exact Jn.tQ (λh=>by have:=h.pl;rw[hpl]at this;cases this));have jT:=I hpl;clear hpl;go_wp2_with
    (first
     |(refine cZ 29 (.tmp 2) rfl (w.heap.size) rfl ai (HB).out bQ hgi ?_)
     |(go_at_call 89;refine(lG.out _ (H.out.step hb)).mono ?_;rintro e w3 ⟨rfl,hb3⟩;have HB3:=I (HB.out.step hb3);have aP:=I (HP.out.step hb3);replace hb:=ay hb hb3;clear hb3;have k0:w3.cell? ⟨w.heap.size+1,0,J⟩=N (G F id):=aP.out.cell 0;have k1:w3.cell? ⟨w.heap.size+1,1,J⟩=N (G F en):=aP.out.cell 1;have k3:w3.cell? ⟨w.heap.size+1,3,J⟩=N (G F kd):=aP.out.cell 3;have k4:w3.cell? ⟨w.heap.size+1,4,J⟩=N (G F fo):=aP.out.cell 4;have k5:w3.cell? ⟨w.heap.size+1,5,J⟩=N (av tx):=aP.out.cell 5;have k6:w3.cell? ⟨w.heap.size+1,6,J⟩=N (T lA ll.length lc):=aP.out.cell 6;have g20:w3.cell? ⟨w.heap.size,20,J⟩=N (T eA el.length ec):=(HB3.out.cell 20).trans aQ)
     |(go_at_call 246;refine(qZ tx _ htx).mono ?_;rintro e w9 ⟨rfl,rfl⟩;(try rw[jT.out])))
   go_ret;exact⟨by rw[HE.out];rfl,hb⟩
  have jT:=I hpl
  by_cases h8:ll.length<2
  ·have HE:Hid (X=ag):=I (by rw[<- HX.out];exact Jn.tQ (λh=>by have a1:=h.id;have a2:=h.e0;have a3:=h.e1;have a4:=h.k0;have a5:=h.k1;have a8:=h.l0;have a9:=h.l1;dsimp only at *;omega));go_wp2_with
    (first
     |(refine cZ 29 (.tmp 2) rfl (w.heap.size) rfl ai (HB).out bQ hgi ?_)
     |(go_at_call 89;refine(lG.out _ (H.out.step hb)).mono ?_;rintro e w3 ⟨rfl,hb3⟩;have HB3:=I (HB.out.step hb3);have aP:=I (HP.out.step hb3);replace hb:=ay hb hb3;clear hb3;have k0:w3.cell? ⟨w.heap.size+1,0,J⟩=N (G F id):=aP.out.cell 0;have k1:w3.cell? ⟨w.heap.size+1,1,J⟩=N (G F en):=aP.out.cell 1;have k3:w3.cell? ⟨w.heap.size+1,3,J⟩=N (G F kd):=aP.out.cell 3;have k4:w3.cell? ⟨w.heap.size+1,4,J⟩=N (G F fo):=aP.out.cell 4;have k5:w3.cell? ⟨w.heap.size+1,5,J⟩=N (av tx):=aP.out.cell 5;have k6:w3.cell? ⟨w.heap.size+1,6,J⟩=N (T lA ll.length lc):=aP.out.cell 6;have g20:w3.cell? ⟨w.heap.size,20,J⟩=N (T eA el.length ec):=(HB3.out.cell 20).trans aQ)
     |(go_at_call 246;refine(qZ tx _ htx).mono ?_;rintro e w9 ⟨rfl,rfl⟩;(try rw[jT.out])))
   go_ret;exact⟨by rw[HE.out];rfl,hb⟩
  by_cases h9:40<ll.length
  ·have HE:Hid (X=ag):=I (by rw[<- HX.out];exact Jn.tQ (λh=>by have a1:=h.id;have a2:=h.e0;have a3:=h.e1;have a4:=h.k0;have a5:=h.k1;have a8:=h.l0;have a9:=h.l1;dsimp only at *;omega));go_wp2_with
    (first
     |(refine cZ 29 (.tmp 2) rfl (w.heap.size) rfl ai (HB).out bQ hgi ?_)
     |(go_at_call 89;refine(lG.out _ (H.out.step hb)).mono ?_;rintro e w3 ⟨rfl,hb3⟩;have HB3:=I (HB.out.step hb3);have aP:=I (HP.out.step hb3);replace hb:=ay hb hb3;clear hb3;have k0:w3.cell? ⟨w.heap.size+1,0,J⟩=N (G F id):=aP.out.cell 0;have k1:w3.cell? ⟨w.heap.size+1,1,J⟩=N (G F en):=aP.out.cell 1;have k3:w3.cell? ⟨w.heap.size+1,3,J⟩=N (G F kd):=aP.out.cell 3;have k4:w3.cell? ⟨w.heap.size+1,4,J⟩=N (G F fo):=aP.out.cell 4;have k5:w3.cell? ⟨w.heap.size+1,5,J⟩=N (av tx):=aP.out.cell 5;have k6:w3.cell? ⟨w.heap.size+1,6,J⟩=N (T lA ll.length lc):=aP.out.cell 6;have g20:w3.cell? ⟨w.heap.size,20,J⟩=N (T eA el.length ec):=(HB3.out.cell 20).trans aQ)
     |(go_at_call 246;refine(qZ tx _ htx).mono ?_;rintro e w9 ⟨rfl,rfl⟩;(try rw[jT.out])))
   go_ret;exact⟨by rw[HE.out];rfl,hb⟩
  have I4:Hid (Jn.Ab ae el.length ⟨id,en,da,kd,fo,tx,⟨ll,lA,lc⟩⟩):=I ⟨rfl,by dsimp only;omega,by dsimp only;omega,by dsimp only;omega,by dsimp only;omega,by dsimp only;omega,F9.out.1,F9.out.2,hpl,by dsimp only;omega,by dsimp only;omega⟩;clear hpl;go_wp2_with
   (first
    |(refine cZ 29 (.tmp 2) rfl (w.heap.size) rfl ai (HB).out bQ hgi ?_)
    |(go_at_call 89;refine(lG.out _ (H.out.step hb)).mono ?_;rintro e w3 ⟨rfl,hb3⟩;have HB3:=I (HB.out.step hb3);have aP:=I (HP.out.step hb3);replace hb:=ay hb hb3;clear hb3;have k0:w3.cell? ⟨w.heap.size+1,0,J⟩=N (G F id):=aP.out.cell 0;have k1:w3.cell? ⟨w.heap.size+1,1,J⟩=N (G F en):=aP.out.cell 1;have k3:w3.cell? ⟨w.heap.size+1,3,J⟩=N (G F kd):=aP.out.cell 3;have k4:w3.cell? ⟨w.heap.size+1,4,J⟩=N (G F fo):=aP.out.cell 4;have k5:w3.cell? ⟨w.heap.size+1,5,J⟩=N (av tx):=aP.out.cell 5;have k6:w3.cell? ⟨w.heap.size+1,6,J⟩=N (T lA ll.length lc):=aP.out.cell 6;have g20:w3.cell? ⟨w.heap.size,20,J⟩=N (T eA el.length ec):=(HB3.out.cell 20).trans aQ)
    |(go_at_call 246;refine(qZ tx _ htx).mono ?_;rintro e w9 ⟨rfl,rfl⟩;(try rw[jT.out])))
  go_loopw [5] (λt wr=> ∃ k:Nat,k<=ll.length/\(∀ j (h:j<k) (h2:j<ll.length),Jn.jc el.length en (ll[j]'h2)=ae)/\t= G F k/\au wr w.heap.size 29 aB/\au wr (w.heap.size+1) 107 #[G F id,G F en,G F da,G F kd,G F fo,av tx,T lA ll.length lc]/\Below w.heap.size w wr) (λt _=>ll.length - (intOf t).toNat)
  case atStart=>exact⟨0,O,λj h=>O,rfl,HB3.out,aP.out,hb⟩
  case round=>
   clear hb k0 k1 k3 k4 k5 k6 g20 aP HB3;obtain⟨k,hk,hno,rfl,hB,hP,hb⟩:=hrel;have HN:=I hno;have dY:=I hB;have gD:=I hP;have hz:=hb.size;have k6:wr.cell? ⟨w.heap.size+1,6,J⟩=N (T lA ll.length lc):=gD.out.cell 6;clear hno hB hP
   by_cases hlt:k<ll.length
   ·obtain⟨b,o,hA,aX,f0,f1,f2⟩:=bq.at_ (Rd.now HR.out hb) hlt;subst hA;have HST:Hid (Jn.jc el.length en ll[k]=ae-> ∀ j (h:j<k+1) (h2:j<ll.length),Jn.jc el.length en (ll[j]'h2)=ae):=I (λhq j h h1=>by
     by_cases e:j=k
     ·subst e;exact hq
     ·exact HN.out j O h1)
    have eH:=I (λ(hq:Jn.jc el.length en ll[k]=ag)=>Jn.YM (V:=true) (n:=el.length) (x:=⟨id,en,da,kd,fo,tx,⟨ll,N ⟨b,o,J⟩,lc⟩⟩) (k:=k) hlt hq);generalize ll[k]=u at*;obtain⟨la,lm,lp⟩:=u;dsimp only at f0 f1 f2;have q0: ∀ d:Later wr,d.now.cell? ⟨b,o+k*3,J⟩=N (G F la):=λd=>d.cell aX f0
    have q1: ∀ d:Later wr,d.now.cell? ⟨b,o+k*3+1,J⟩=N (G F lm):=λd=>d.cell aX f1
    have q2: ∀ d:Later wr,d.now.cell? ⟨b,o+k*3+2,J⟩=N (G F lp):=λd=>d.cell aX f2
    have p1: ∀ d:Later wr,d.now.cell? ⟨w.heap.size+1,1,J⟩=N (G F en):=λd=>d.cell gD.out.lt (gD.out.cell 1)
    have p6: ∀ d:Later wr,d.now.cell? ⟨w.heap.size+1,6,J⟩=N (T (N ⟨b,o,J⟩) ll.length lc):=λd=>d.cell gD.out.lt (gD.out.cell 6)
    have KL:=I (λW=>abI aB cur y m p cl cA cc ro el eA ec W en HG la lm lp);clear f0 f1 f2;go_upto_region 8 with fail
    clear k6
    cases hlb:Jn.jc el.length en ⟨la,lm,lp⟩
    ·have HE:Hid (X=ag):=I (by rw[<- HX.out];exact eH.out hlb);rw[hlb]at KL;clear hlb;refine eX ai ai ?_
     (repeat (go_big_quiet_step ((fail))));refine zq 29 (.tmp 2) rfl (w.heap.size) rfl ai (dY).out bQ hgi ?_;(try simp only[Zx])
     (repeat (go_big_quiet_step ((fail))));go_big_quiet_step ((go_at_call 247;exact Later.call _ (KL.out _)))
     (repeat (go_big_quiet_step ((fail))));refine wpQuiet_nil ?_;rintro _ ⟨dq,rfl⟩
     have hbe:=ay hb dq.below;go_wp2_with fail;go_ret;exact⟨by rw[HE.out];rfl,hbe⟩
    ·have HE:=I (HST.out hlb);rw[hlb]at KL;clear hlb;refine eX ai ai ?_
     (repeat (go_big_quiet_step ((fail))));refine zq 29 (.tmp 2) rfl (w.heap.size) rfl ai (dY).out bQ hgi ?_;(try simp only[Zx])
     (repeat (go_big_quiet_step ((fail))));go_big_quiet_step ((go_at_call 247;exact Later.call _ (KL.out _)))
     (repeat (go_big_quiet_step ((fail))));refine wpQuiet_nil ?_;rintro _ ⟨dq,rfl⟩
     have hbe:=ay hb dq.below;have oW:=I (dY.out.step dq.below);have Ea:=I (gD.out.step dq.below);go_wp2_with fail;go_roundw
     case rel=>exact⟨k+1,O,HE.out,by go_num,oW.out,Ea.out,hbe⟩
     case measure=>simp[intOf];omega
   ·have HE:Hid (X=ae):=I (by rw[<- HX.out];exact Jn.YN I4.out (λj hj=>HN.out j (by dsimp only at hj;omega) hj));go_wp2_with fail;go_ret;exact⟨by rw[HE.out];rfl,hb⟩
 have e7:(kd==3)=ag:=by simpa using h7
 have e8:(kd !=3)=ae:=by simpa using h7
 have HK:=I h7;clear h7
 by_cases GI:fo=0
 ·have e9:(fo !=0)=ag:=by simpa using GI
  have F9:Hid ((kd=3->1<=fo)/\(kd≠3->fo=0)):=I ⟨λh=>absurd h HK.out,λ_=>GI⟩;clear GI
  cases hpl:Jn.jH tx
  ·have HE:Hid (X=ag):=I (by rw[<- HX.out];exact Jn.tQ (λh=>by have:=h.pl;rw[hpl]at this;cases this));have jT:=I hpl;clear hpl;go_wp2_with
    (first
     |(refine cZ 29 (.tmp 2) rfl (w.heap.size) rfl ai (HB).out bQ hgi ?_)
     |(go_at_call 89;refine(lG.out _ (H.out.step hb)).mono ?_;rintro e w3 ⟨rfl,hb3⟩;have HB3:=I (HB.out.step hb3);have aP:=I (HP.out.step hb3);replace hb:=ay hb hb3;clear hb3;have k0:w3.cell? ⟨w.heap.size+1,0,J⟩=N (G F id):=aP.out.cell 0;have k1:w3.cell? ⟨w.heap.size+1,1,J⟩=N (G F en):=aP.out.cell 1;have k3:w3.cell? ⟨w.heap.size+1,3,J⟩=N (G F kd):=aP.out.cell 3;have k4:w3.cell? ⟨w.heap.size+1,4,J⟩=N (G F fo):=aP.out.cell 4;have k5:w3.cell? ⟨w.heap.size+1,5,J⟩=N (av tx):=aP.out.cell 5;have k6:w3.cell? ⟨w.heap.size+1,6,J⟩=N (T lA ll.length lc):=aP.out.cell 6;have g20:w3.cell? ⟨w.heap.size,20,J⟩=N (T eA el.length ec):=(HB3.out.cell 20).trans aQ)
     |(go_at_call 246;refine(qZ tx _ htx).mono ?_;rintro e w9 ⟨rfl,rfl⟩;(try rw[jT.out])))
   go_ret;exact⟨by rw[HE.out];rfl,hb⟩
  have jT:=I hpl
  by_cases h8:ll.length<2
  ·have HE:Hid (X=ag):=I (by rw[<- HX.out];exact Jn.tQ (λh=>by have a1:=h.id;have a2:=h.e0;have a3:=h.e1;have a4:=h.k0;have a5:=h.k1;have a8:=h.l0;have a9:=h.l1;dsimp only at *;omega));go_wp2_with
    (first
     |(refine cZ 29 (.tmp 2) rfl (w.heap.size) rfl ai (HB).out bQ hgi ?_)
     |(go_at_call 89;refine(lG.out _ (H.out.step hb)).mono ?_;rintro e w3 ⟨rfl,hb3⟩;have HB3:=I (HB.out.step hb3);have aP:=I (HP.out.step hb3);replace hb:=ay hb hb3;clear hb3;have k0:w3.cell? ⟨w.heap.size+1,0,J⟩=N (G F id):=aP.out.cell 0;have k1:w3.cell? ⟨w.heap.size+1,1,J⟩=N (G F en):=aP.out.cell 1;have k3:w3.cell? ⟨w.heap.size+1,3,J⟩=N (G F kd):=aP.out.cell 3;have k4:w3.cell? ⟨w.heap.size+1,4,J⟩=N (G F fo):=aP.out.cell 4;have k5:w3.cell? ⟨w.heap.size+1,5,J⟩=N (av tx):=aP.out.cell 5;have k6:w3.cell? ⟨w.heap.size+1,6,J⟩=N (T lA ll.length lc):=aP.out.cell 6;have g20:w3.cell? ⟨w.heap.size,20,J⟩=N (T eA el.length ec):=(HB3.out.cell 20).trans aQ)
     |(go_at_call 246;refine(qZ tx _ htx).mono ?_;rintro e w9 ⟨rfl,rfl⟩;(try rw[jT.out])))
   go_ret;exact⟨by rw[HE.out];rfl,hb⟩
  by_cases h9:40<ll.length
  ·have HE:Hid (X=ag):=I (by rw[<- HX.out];exact Jn.tQ (λh=>by have a1:=h.id;have a2:=h.e0;have a3:=h.e1;have a4:=h.k0;have a5:=h.k1;have a8:=h.l0;have a9:=h.l1;dsimp only at *;omega));go_wp2_with
    (first
     |(refine cZ 29 (.tmp 2) rfl (w.heap.size) rfl ai (HB).out bQ hgi ?_)
     |(go_at_call 89;refine(lG.out _ (H.out.step hb)).mono ?_;rintro e w3 ⟨rfl,hb3⟩;have HB3:=I (HB.out.step hb3);have aP:=I (HP.out.step hb3);replace hb:=ay hb hb3;clear hb3;have k0:w3.cell? ⟨w.heap.size+1,0,J⟩=N (G F id):=aP.out.cell 0;have k1:w3.cell? ⟨w.heap.size+1,1,J⟩=N (G F en):=aP.out.cell 1;have k3:w3.cell? ⟨w.heap.size+1,3,J⟩=N (G F kd):=aP.out.cell 3;have k4:w3.cell? ⟨w.heap.size+1,4,J⟩=N (G F fo):=aP.out.cell 4;have k5:w3.cell? ⟨w.heap.size+1,5,J⟩=N (av tx):=aP.out.cell 5;have k6:w3.cell? ⟨w.heap.size+1,6,J⟩=N (T lA ll.length lc):=aP.out.cell 6;have g20:w3.cell? ⟨w.heap.size,20,J⟩=N (T eA el.length ec):=(HB3.out.cell 20).trans aQ)
     |(go_at_call 246;refine(qZ tx _ htx).mono ?_;rintro e w9 ⟨rfl,rfl⟩;(try rw[jT.out])))
   go_ret;exact⟨by rw[HE.out];rfl,hb⟩
  have I4:Hid (Jn.Ab ae el.length ⟨id,en,da,kd,fo,tx,⟨ll,lA,lc⟩⟩):=I ⟨rfl,by dsimp only;omega,by dsimp only;omega,by dsimp only;omega,by dsimp only;omega,by dsimp only;omega,F9.out.1,F9.out.2,hpl,by dsimp only;omega,by dsimp only;omega⟩;clear hpl;go_wp2_with
   (first
    |(refine cZ 29 (.tmp 2) rfl (w.heap.size) rfl ai (HB).out bQ hgi ?_)
    |(go_at_call 89;refine(lG.out _ (H.out.step hb)).mono ?_;rintro e w3 ⟨rfl,hb3⟩;have HB3:=I (HB.out.step hb3);have aP:=I (HP.out.step hb3);replace hb:=ay hb hb3;clear hb3;have k0:w3.cell? ⟨w.heap.size+1,0,J⟩=N (G F id):=aP.out.cell 0;have k1:w3.cell? ⟨w.heap.size+1,1,J⟩=N (G F en):=aP.out.cell 1;have k3:w3.cell? ⟨w.heap.size+1,3,J⟩=N (G F kd):=aP.out.cell 3;have k4:w3.cell? ⟨w.heap.size+1,4,J⟩=N (G F fo):=aP.out.cell 4;have k5:w3.cell? ⟨w.heap.size+1,5,J⟩=N (av tx):=aP.out.cell 5;have k6:w3.cell? ⟨w.heap.size+1,6,J⟩=N (T lA ll.length lc):=aP.out.cell 6;have g20:w3.cell? ⟨w.heap.size,20,J⟩=N (T eA el.length ec):=(HB3.out.cell 20).trans aQ)
    |(go_at_call 246;refine(qZ tx _ htx).mono ?_;rintro e w9 ⟨rfl,rfl⟩;(try rw[jT.out])))
  go_loopw [5] (λt wr=> ∃ k:Nat,k<=ll.length/\(∀ j (h:j<k) (h2:j<ll.length),Jn.jc el.length en (ll[j]'h2)=ae)/\t= G F k/\au wr w.heap.size 29 aB/\au wr (w.heap.size+1) 107 #[G F id,G F en,G F da,G F kd,G F fo,av tx,T lA ll.length lc]/\Below w.heap.size w wr) (λt _=>ll.length - (intOf t).toNat)
  case atStart=>exact⟨0,O,λj h=>O,rfl,HB3.out,aP.out,hb⟩
  case round=>
   clear hb k0 k1 k3 k4 k5 k6 g20 aP HB3;obtain⟨k,hk,hno,rfl,hB,hP,hb⟩:=hrel;have HN:=I hno;have dY:=I hB;have gD:=I hP;have hz:=hb.size;have k6:wr.cell? ⟨w.heap.size+1,6,J⟩=N (T lA ll.length lc):=gD.out.cell 6;clear hno hB hP
   by_cases hlt:k<ll.length
   ·obtain⟨b,o,hA,aX,f0,f1,f2⟩:=bq.at_ (Rd.now HR.out hb) hlt;subst hA;have HST:Hid (Jn.jc el.length en ll[k]=ae-> ∀ j (h:j<k+1) (h2:j<ll.length),Jn.jc el.length en (ll[j]'h2)=ae):=I (λhq j h h1=>by
     by_cases e:j=k
     ·subst e;exact hq
     ·exact HN.out j O h1)
    have eH:=I (λ(hq:Jn.jc el.length en ll[k]=ag)=>Jn.YM (V:=true) (n:=el.length) (x:=⟨id,en,da,kd,fo,tx,⟨ll,N ⟨b,o,J⟩,lc⟩⟩) (k:=k) hlt hq);generalize ll[k]=u at*;obtain⟨la,lm,lp⟩:=u;dsimp only at f0 f1 f2;have q0: ∀ d:Later wr,d.now.cell? ⟨b,o+k*3,J⟩=N (G F la):=λd=>d.cell aX f0
    have q1: ∀ d:Later wr,d.now.cell? ⟨b,o+k*3+1,J⟩=N (G F lm):=λd=>d.cell aX f1
    have q2: ∀ d:Later wr,d.now.cell? ⟨b,o+k*3+2,J⟩=N (G F lp):=λd=>d.cell aX f2
    have p1: ∀ d:Later wr,d.now.cell? ⟨w.heap.size+1,1,J⟩=N (G F en):=λd=>d.cell gD.out.lt (gD.out.cell 1)
    have p6: ∀ d:Later wr,d.now.cell? ⟨w.heap.size+1,6,J⟩=N (T (N ⟨b,o,J⟩) ll.length lc):=λd=>d.cell gD.out.lt (gD.out.cell 6)
    have KL:=I (λW=>abI aB cur y m p cl cA cc ro el eA ec W en HG la lm lp);clear f0 f1 f2;go_upto_region 8 with fail
    clear k6
    cases hlb:Jn.jc el.length en ⟨la,lm,lp⟩
    ·have HE:Hid (X=ag):=I (by rw[<- HX.out];exact eH.out hlb);rw[hlb]at KL;clear hlb;refine eX ai ai ?_
     (repeat (go_big_quiet_step ((fail))));refine zq 29 (.tmp 2) rfl (w.heap.size) rfl ai (dY).out bQ hgi ?_;(try simp only[Zx])
     (repeat (go_big_quiet_step ((fail))));go_big_quiet_step ((go_at_call 247;exact Later.call _ (KL.out _)))
     (repeat (go_big_quiet_step ((fail))));refine wpQuiet_nil ?_;rintro _ ⟨dq,rfl⟩
     have hbe:=ay hb dq.below;go_wp2_with fail;go_ret;exact⟨by rw[HE.out];rfl,hbe⟩
    ·have HE:=I (HST.out hlb);rw[hlb]at KL;clear hlb;refine eX ai ai ?_
     (repeat (go_big_quiet_step ((fail))));refine zq 29 (.tmp 2) rfl (w.heap.size) rfl ai (dY).out bQ hgi ?_;(try simp only[Zx])
     (repeat (go_big_quiet_step ((fail))));go_big_quiet_step ((go_at_call 247;exact Later.call _ (KL.out _)))
     (repeat (go_big_quiet_step ((fail))));refine wpQuiet_nil ?_;rintro _ ⟨dq,rfl⟩
     have hbe:=ay hb dq.below;have oW:=I (dY.out.step dq.below);have Ea:=I (gD.out.step dq.below);go_wp2_with fail;go_roundw
     case rel=>exact⟨k+1,O,HE.out,by go_num,oW.out,Ea.out,hbe⟩
     case measure=>simp[intOf];omega
   ·have HE:Hid (X=ae):=I (by rw[<- HX.out];exact Jn.YN I4.out (λj hj=>HN.out j (by dsimp only at hj;omega) hj));go_wp2_with fail;go_ret;exact⟨by rw[HE.out];rfl,hb⟩
 have e9:(fo !=0)=ae:=by simpa using GI
 have HE:Hid (X=ag):=I (by rw[<- HX.out];exact Jn.tQ (λh=>GI (h.Lp HK.out)));clear GI;go_wp2_with
  (first
   |(refine cZ 29 (.tmp 2) rfl (w.heap.size) rfl ai (HB).out bQ hgi ?_)
   |(go_at_call 89;refine(lG.out _ (H.out.step hb)).mono ?_;rintro e w3 ⟨rfl,hb3⟩;have HB3:=I (HB.out.step hb3);have aP:=I (HP.out.step hb3);replace hb:=ay hb hb3;clear hb3;have k0:w3.cell? ⟨w.heap.size+1,0,J⟩=N (G F id):=aP.out.cell 0;have k1:w3.cell? ⟨w.heap.size+1,1,J⟩=N (G F en):=aP.out.cell 1;have k3:w3.cell? ⟨w.heap.size+1,3,J⟩=N (G F kd):=aP.out.cell 3;have k4:w3.cell? ⟨w.heap.size+1,4,J⟩=N (G F fo):=aP.out.cell 4;have k5:w3.cell? ⟨w.heap.size+1,5,J⟩=N (av tx):=aP.out.cell 5;have k6:w3.cell? ⟨w.heap.size+1,6,J⟩=N (T lA ll.length lc):=aP.out.cell 6;have g20:w3.cell? ⟨w.heap.size,20,J⟩=N (T eA el.length ec):=(HB3.out.cell 20).trans aQ)
   |(go_at_call 246;refine(qZ tx _ htx).mono ?_;rintro e w9 ⟨rfl,rfl⟩;(try rw[jT.out])))
 go_ret;exact⟨by rw[HE.out];rfl,hb⟩
end
end Go.Proofs.YtbedbfdhfokifaaGreat
