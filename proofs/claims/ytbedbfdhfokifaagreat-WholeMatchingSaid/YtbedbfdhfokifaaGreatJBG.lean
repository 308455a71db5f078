/- Part of the proof of WholeMatching. -/
import Derived.Test.YtbedbfdhfokifaaGreatJBC
namespace Go.Proofs.YtbedbfdhfokifaaGreat
set_option maxRecDepth 100000
set_option maxHeartbeats 16000000
set_option linter.unusedVariables false
set_option linter.unusedSimpArgs false
open _root_.Bool renaming false->ag
open Go renaming World->Z,Calls->aF,Addr->aG,Value->aj,maxLen->bK
open Go.IntKind renaming i64->F
open Go.Obj renaming cells->U
open Go.Proofs.Tryz renaming prog->ak
open Go.Value renaming int->G,slice->T,string->av,agg->az
open _root_.Option renaming some->N
open Go.RowKit
structure II (x:aI):Prop where
 ln:x.lines.l.length<=60
 tx:x.text.size<=200
 am: ∀ l∈x.lines.l,-1125899906842624<=l.amount/\l.amount<=1125899906842624
structure MR (cur:ByteArray) (cl:List Acc) (el:List aY) (es:List aI):Prop where
 ik:lY cur cl el
 len:es.length<=61
 each: ∀ x∈es,II x
section
variable (aB:Array aj) (cur:ByteArray) (y m p:Int) (cl:List Acc) (cA:Option aG) (cc:Nat) (ro:dZ) (el:List aY) (eA:Option aG) (ec:Nat) (w:Z)
theorem ajn (es:List aI) (sA:Option aG) (sc:Nat) (HG:Hid (aB= #[av cur,G F y,G F m,G F p,T cA cl.length cc,G F ro.dU,G F ro.dR,G F ro.dO,G F ro.inventory,G F ro.reserve,G F ro.dV,G F ro.dJ,G F ro.acquired,G F ro.dX,G F ro.dP,G F ro.dN,G F ro.dQ,G F ro.dW,G F ro.difference,G F ro.dL,T eA el.length ec])) (h:eB w cl cA el eA) (gT:cur.size<=bK) (hcl:cl.length<=bK) (hel:el.length<=bK) (hr:Rd w w.heap.size 7 sA es.length (cellsOf aI.cells es)) (hok: ∀ x∈es,x.Ok w) (hes:es.length<=bK):
 aF ak 18 #[az aB,T sA es.length sc] w (Jy (MR cur cl el es) w):=by
 have H:=I h;have HR:=I hr;have dx:=I hok;have KF:=I (λW (h:eB W cl cA el eA)=>agG cur y m p cl cA cc ro el eA ec W h gT hcl hel);rw[<- HG.out]at KF;have hgi:(ak.info? 29).map (·.size)=N aB.size:=by rw[HG.out];exact gy
 have hb:Below w.heap.size w (w.alloc (U aB 29)):=(aD _ _).alloc (aC _) _;have HB:=I (au.new w 29 aB);unfold bK at hes;clear h hr hok gT hcl hel;go_enter Tryz.func18,Tryz.ntmps18;go_upto_region 1 with fail
 generalize w.alloc (U aB 29)=W at*;go_wp2_with fail;go_loopw [5] (λt wr=> ∃ k:Nat,k<=es.length/\k<=61/\t= G F k/\(∀ j (h:j<k) (h2:j<es.length),II (es[j]'h2))/\W=wr) (λt _=>es.length - (intOf t).toNat)
 case atStart=>exact⟨0,O,O,rfl,λj h=>O,rfl⟩
 case round=>
  obtain⟨k,hk,apQ,rfl,hno,rfl⟩:=hrel;have HN:=I hno;clear hno
  by_cases hlt:k<es.length
  ·obtain⟨b,o,hA,aX,f0,f1,f2,f3,f4,f5,f6⟩:=aI.at_ (Rd.now HR.out hb) hlt;have hxo:=dx.out _ (bP hlt);have HST:Hid (II es[k]-> ∀ j (h:j<k+1) (h2:j<es.length),II (es[j]'h2)):=I (λhq j h h1=>by
    by_cases e:j=k
    ·subst e;exact hq
    ·exact HN.out j O h1)
   generalize es[k]=x at*;obtain⟨id,en,da,kd,fo,tx,⟨ll,lA,lc⟩⟩:=x;dsimp only[Sl.val]at*;have hlies:=hxo.2.2.2.2.2.2.1;have hll:ll.length<=bK:=iT hlies.2.1 hlies.2.2;have htx:tx.size<=bK:=hxo.2.2.2.2.2.1;have HL:=I (show Rd w w.heap.size 3 lA ll.length (cellsOf bq.cells ll) from hlies.1);unfold bK at hll htx;clear hxo hlies;subst hA
   by_cases h1:60<ll.length
   ·go_wp2_with fail;go_ret;exact⟨ag,rfl,hb,λh=>by cases h⟩
   by_cases h2:200<tx.size
   ·go_wp2_with fail;go_ret;exact⟨ag,rfl,hb,λh=>by cases h⟩
   by_cases h3:(60:Int)<(k:Int)
   ·go_wp2_with fail;go_ret;exact⟨ag,rfl,hb,λh=>by cases h⟩
   go_wp2_with fail;obtain⟨wo,rfl⟩: ∃ wo:Z,wo=W:=⟨_,rfl⟩;go_loopw [6] (λt wr=> ∃ j:Nat,j<=ll.length/\t= G F j/\(∀ i (h:i<j) (h2:i<ll.length),-1125899906842624<=(ll[i]'h2).amount/\(ll[i]'h2).amount<=1125899906842624)/\wo=wr) (λt _=>ll.length - (intOf t).toNat)
   case atStart=>exact⟨0,O,rfl,λi h=>O,rfl⟩
   case round=>
    obtain⟨j,hj,rfl,xZ,rfl⟩:=hrel;have jm:=I xZ;clear xZ
    by_cases hjl:j<ll.length
    ·obtain⟨b2,o2,hA2,qR,g0,g1,g2⟩:=bq.at_ (Rd.now HL.out hb) hjl;have adL:Hid (-1125899906842624<=ll[j].amount/\ll[j].amount<=1125899906842624-> ∀ i (h:i<j+1) (h2:i<ll.length),-1125899906842624<=(ll[i]'h2).amount/\(ll[i]'h2).amount<=1125899906842624):=I (λhq i h h1=>by
      by_cases e:i=j
      ·subst e;exact hq
      ·exact jm.out i O h1)
     generalize ll[j]=u at*;obtain⟨la,lm,lp⟩:=u;dsimp only at*;subst hA2
     by_cases h4:1125899906842624<lm
     ·go_wp2_with fail;go_ret;exact⟨ag,rfl,hb,λh=>by cases h⟩
     by_cases h5:lm< -1125899906842624
     ·go_wp2_with fail;go_ret;exact⟨ag,rfl,hb,λh=>by cases h⟩
     have HE:=I (adL.out ⟨by omega,O⟩);go_wp2_with fail;go_roundw
     case rel=>exact⟨j+1,O,by go_num,HE.out,trivial⟩
     case measure=>simp[intOf];omega
    ·have HE:=I (HST.out ⟨by dsimp only;omega,by dsimp only;omega,λl hl=>by
      obtain⟨i,hi,rfl⟩:=iK.1 hl;have hi2:i<ll.length:=hi;exact jm.out i O hi2⟩)
     go_wp2_with fail;go_roundw
     case rel=>exact⟨k+1,O,O,by go_num,HE.out,trivial⟩
     case measure=>simp[intOf];omega
  ·have HE:Hid (∀ x∈es,II x):=I (λx hx=>by
    obtain⟨j,hj,rfl⟩:=iK.1 hx;exact HN.out j O hj)
   have aim:es.length<=61:=O;go_wp2_with (first
    |(refine cZ 29 (.tmp 2) rfl (w.heap.size) rfl ai (HB).out bQ hgi ?_)
    |(go_at_call 50;refine(KF.out _ (H.out.step hb)).mono ?_;rintro e w3 ⟨bb,rfl,ah,hfo⟩;have hb3:=ay hb ah;have HFO:=I hfo;clear ah hfo))
   go_ret;exact⟨bb,rfl,hb3,λh=>⟨HFO.out h,aim,HE.out⟩⟩
end
end Go.Proofs.YtbedbfdhfokifaaGreat
