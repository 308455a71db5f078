/- Part of the proof of WholeMatching. -/
import Derived.Test.YtbedbfdhfokifaaGreatJAI
import Derived.Test.YtbedbfdhfokifaaGreatJAJ
namespace Go.Proofs.YtbedbfdhfokifaaGreat
set_option maxRecDepth 100000
set_option maxHeartbeats 16000000
set_option linter.unusedVariables false
set_option linter.unusedSimpArgs false
open _root_.Bool renaming true->ae,false->ag
open Go renaming World->Z,Calls->aF,Addr->aG,Value->aj,Ending->eG
open Go.IntKind renaming i64->F
open Go.Obj renaming cells->U
open Go.Proofs.Tryz renaming prog->ak
open Go.Value renaming int->G,slice->T,bool->aA,pointer->aN,string->av,agg->az,tuple->bG
open _root_.Option renaming none->J,some->N
open Go.RowKit
theorem ae9 (l:List Acc) (c:Int) (A:Option aG) (cap:Nat) (w:Z) (hr:Rd w w.heap.size 4 A l.length (Ch.cells l)) (hn:l.length<=300000):
 aF ak 200 #[T A l.length cap,G F c] w (λe w'=>e= .returned (bG #[az #[G F (Ch.bU l c).code,G F (Ch.bU l c).kind,G F (Ch.bU l c).basis,G F (Ch.bU l c).parent],aA (Ch.eO l c)])/\Below w.heap.size w w'):=
 (LG l c A cap w hr hn).mono (λ_ _ h=>h)
def rY (c:Int) (a:Acc):Bool:=a.code==c
theorem aef (a:Acc) (g:Nat) (c:Int) (w:Z) (hg:g<w.heap.size) (hs:w.cell? ⟨g,0,J⟩=N (G F c)):
 aF ak 164 #[az #[G F a.code,G F a.kind,G F a.basis,G F a.parent],aN (N ⟨g,0,J⟩)] w (fD (rY c a) w):=by
 have hb:Below w.heap.size w (w.alloc (U #[G F a.code,G F a.kind,G F a.basis,G F a.parent] 212)):=(aD _ _).alloc (aC _) _;have hs2:(w.alloc (U #[G F a.code,G F a.kind,G F a.basis,G F a.parent] 212)).cell? ⟨g,0,J⟩=N (G F c):=(hb.cell (p:=⟨g,0,J⟩) hg).trans hs;have HB:=I hb;clear hb
 cases he:(a.code==c)
 ·have HE:Hid (rY c a=ag):=I he;go_enter Tryz.func164,Tryz.ntmps164;go_wp2_with fail;go_ret;exact⟨by rw[HE.out];rfl,HB.out⟩
 ·have HE:Hid (rY c a=ae):=I he;go_enter Tryz.func164,Tryz.ntmps164;go_wp2_with fail;go_ret;exact⟨by rw[HE.out];rfl,HB.out⟩
theorem aiO (l:List Acc) (A:Option aG) (lc:Nat) (g:Nat) (c:Int) (w:Z) (hr:Rd w w.heap.size 4 A l.length (Ch.cells l)) (hn:l.length<=1000000)
 (hc: ∀ (a:Acc) (W:Z),Below w.heap.size w W->aF ak 164 #[az #[G F a.code,G F a.kind,G F a.basis,G F a.parent],aN (N ⟨g,0,J⟩)] W (fD (rY c a) W)):
 aF ak 163 #[T A l.length lc,.func (.func 164) #[] #[aN (N ⟨g,0,J⟩)]] w (λe w'=>e= .returned (G F (iN (rY c) l))/\Below w.heap.size w w'):=by
 have hb:=aD w.heap.size w;have HR:=I hr;have HC:=I hc;clear hr hc;go_enter Tryz.func163,Tryz.ntmps163;go_wp2_with fail;go_loopw [5,8] (λ_ t wr=> ∃ k:Nat,k<=l.length/\(∀ j (h:j<k) (h1:j<l.length),rY c (l[j]'h1)=ag)/\t= G F k/\Below w.heap.size w wr) (λ_ t _=>l.length - (intOf t).toNat)
 case atStart=>exact⟨0,O,λj h=>O,rfl,hb⟩
 case round=>
  clear hb;obtain⟨k,hk,hno,rfl,hb⟩:=hrel;have HN:=I hno;clear hno
  by_cases hlt:k<l.length
  ·obtain⟨b,o,hA,aX,f0,f1,f2,f3⟩:=Ch.at_ (HR.out.below hb (aC _)) hlt;subst hA
   cases hq:rY c l[k]
   ·have HQ:=I hq;go_wp2_with (go_at_call 164;refine((HC.out l[k] _ hb)).mono ?_;rintro e w2 ⟨rfl,hb2⟩;replace hb:=ay hb hb2;clear hb2);go_roundw
    case rel=>
     refine⟨k+1,O,λj h h1=> ?_,by go_num,hb⟩
     by_cases e:j=k
     ·subst e;exact HQ.out
     ·exact HN.out j O h1
    case measure=>simp[intOf];omega
   ·have HE:Hid (iN (rY c) l=k):=I (Cs k hlt (λj hj=>HN.out j hj O) hq);go_wp2_with (go_at_call 164;refine((HC.out l[k] _ hb)).mono ?_;rintro e w2 ⟨rfl,hb2⟩;replace hb:=ay hb hb2;clear hb2);go_ret;exact⟨jg HE.out.symm,hb⟩
  ·have HE:Hid (iN (rY c) l= -1):=I (Gy λj hj=>HN.out j O hj);go_wp2_with fail;go_ret;exact⟨jg HE.out.symm,hb⟩
theorem agH (l:List Acc) (c:Int):(iN (rY c) l= -1/\Ch.find l c=J)\/ ∃ (k:Nat) (h:k<l.length),iN (rY c) l=k/\Ch.find l c=N l[k]:=by
 unfold iN
 cases hf:l.findIdx? (rY c) with
 |none=>
  refine .inl ⟨rfl,Ch.Oe l c λj h=> ?_⟩;rw[Io]at hf;have:=hf l[j] (bP h)
  simpa [rY] using this
 |some k=>
  rw[Im]at hf;obtain⟨hk,h1,h2⟩:=hf;refine .inr ⟨k,hk,rfl,Ch.SB l c k hk (by simpa [rY] using h1) λj hj=> ?_⟩;have:=h2 j hj
  simpa [rY] using this
def MN (l:List Acc) (c:Int) (w:Z) (e:eG) (w':Z):Prop:=
 e= .returned (bG #[az #[G F (Ch.bU l c).code,G F (Ch.bU l c).kind,G F (Ch.bU l c).basis,G F (Ch.bU l c).parent],aA (Ch.eO l c)])/\Below w.heap.size w w'
section
variable (aB:Array aj) (cur:ByteArray) (y m p:Int) (cl:List Acc) (cA:Option aG) (cc:Nat) (ro:dZ) (el:List aY) (eA:Option aG) (ec:Nat) (w:Z)
theorem NM (c:Int) (HG:Hid (aB= #[av cur,G F y,G F m,G F p,T cA cl.length cc,G F ro.dU,G F ro.dR,G F ro.dO,G F ro.inventory,G F ro.reserve,G F ro.dV,G F ro.dJ,G F ro.acquired,G F ro.dX,G F ro.dP,G F ro.dN,G F ro.dQ,G F ro.dW,G F ro.difference,G F ro.dL,T eA el.length ec])) (h:eB w cl cA el eA) (hn:cl.length<=300000):
 aF ak 119 #[az aB,G F c] w (MN cl c w):=by
 have hgi:(ak.info? 29).map (·.size)=N aB.size:=by rw[HG.out];exact gy
 have H:=I h;clear h;have hb:Below w.heap.size w (((w.alloc (U aB 29)).alloc (U #[G F c] 3)).alloc (U #[G F 0,G F 0,G F 0,G F 0] 212)):=by
  have hb:=aD w.heap.size w;exact bC
 have HB:=I (((au.new w 29 aB).alloc (U #[G F c] 3)).alloc (U #[G F 0,G F 0,G F 0,G F 0] 212));have hC0:=(au.new (w.alloc (U aB 29)) 3 #[G F c]).alloc (U #[G F 0,G F 0,G F 0,G F 0] 212);have hD0:=au.new ((w.alloc (U aB 29)).alloc (U #[G F c] 3)) 212 #[G F 0,G F 0,G F 0,G F 0];have e1:(w.alloc (U aB 29)).heap.size=w.heap.size+1:=aL;have e2:((w.alloc (U aB 29)).alloc (U #[G F c] 3)).heap.size=w.heap.size+1+1:=aL;rw[e1]at hC0;rw[e2]at hD0;clear e1 e2;have HC:=I hC0;have HD:=I hD0;clear hC0 hD0;have e4:(((w.alloc (U aB 29)).alloc (U #[G F c] 3)).alloc (U #[G F 0,G F 0,G F 0,G F 0] 212)).cell? ⟨w.heap.size,4,J⟩=N (T cA cl.length cc):=(HB.out.cell 4).trans aQ;go_enter Tryz.func119,Tryz.ntmps119;go_wp2_with fail;clear e4;generalize mh:((w.alloc (U aB 29)).alloc (U #[G F c] 3)).alloc (U #[G F 0,G F 0,G F 0,G F 0] 212)=W at*;clear mh;have hgW:w.heap.size+1<W.heap.size:=HC.out.lt;refine(aiO cl cA cc (w.heap.size+1) c W (Rd.now H.out.ch hb) O (λa W' hb'=>aef a _ c W' (by have:=hb'.size;omega) ((hb'.cell (p:=⟨w.heap.size+1,0,J⟩) hgW).trans (HC.out.cell 0)))).mono ?_;rintro e w2 ⟨rfl,ah⟩;replace hb:=ay hb ah;replace HB:=I (HB.out.step ah);have hD:=HD.out.step ah;clear ah HC HD hgW;have q0:w2.cell? ⟨w.heap.size+1+1,0,J⟩=N (G F 0):=hD.cell 0;have q1:w2.cell? ⟨w.heap.size+1+1,1,J⟩=N (G F 0):=hD.cell 1;have q2:w2.cell? ⟨w.heap.size+1+1,2,J⟩=N (G F 0):=hD.cell 2;have q3:w2.cell? ⟨w.heap.size+1+1,3,J⟩=N (G F 0):=hD.cell 3;have z0:=hD.frozen 0;have z1:=hD.frozen 1;have z2:=hD.frozen 2;have z3:=hD.frozen 3;have Oo:=I hD;clear hD
 rcases agH cl c with ⟨e1,hf⟩|⟨k,hk,e1,hf⟩
 ·rw[e1];have HF:=I hf;clear e1 hf;go_wp2_with fail;have hB2:=(((Oo.out.bZ 0 (G F 0)).bZ 1 (G F 0)).bZ 2 (G F 0)).bZ 3 (G F 0);have p0:=hB2.cell 0;have p1:=hB2.cell 1;have p2:=hB2.cell 2;have p3:=hB2.cell 3;simp only[Array.setIfInBounds]at p0 p1 p2 p3;refine iq (v:= bG #[az #[G F 0,G F 0,G F 0,G F 0],aA ag]) (by simp[results,Tryz.results119,go_sem,p0,p1,p2,p3]) rfl ?_;refine⟨by rw[show Ch.bU cl c=Ch.zero from by unfold Ch.bU;rw[HF.out];rfl,show Ch.eO cl c=ag from by unfold Ch.eO;rw[HF.out];rfl];rfl,?_⟩;exact(((hb.setCell bL _).setCell bL _).setCell bL _).setCell bL _
 ·rw[e1];have HF:=I hf;clear e1 hf;have e4:w2.cell? ⟨w.heap.size,4,J⟩=N (T cA cl.length cc):=(HB.out.cell 4).trans aQ;obtain⟨b,o,hA,aX,f0,f1,f2,f3⟩:=Ch.at_ (Rd.now H.out.ch hb) hk;subst hA;go_wp2_with fail;have hB2:=(((Oo.out.bZ 0 (G F cl[k].code)).bZ 1 (G F cl[k].kind)).bZ 2 (G F cl[k].basis)).bZ 3 (G F cl[k].parent);have p0:=hB2.cell 0;have p1:=hB2.cell 1;have p2:=hB2.cell 2;have p3:=hB2.cell 3;simp only[Array.setIfInBounds]at p0 p1 p2 p3;refine iq (v:= bG #[az #[G F cl[k].code,G F cl[k].kind,G F cl[k].basis,G F cl[k].parent],aA ae]) (by simp[results,Tryz.results119,go_sem,p0,p1,p2,p3]) rfl ?_;refine⟨by rw[show Ch.bU cl c=cl[k] from by unfold Ch.bU;rw[HF.out];rfl,show Ch.eO cl c=ae from by unfold Ch.eO;rw[HF.out];rfl],?_⟩;exact(((hb.setCell bL _).setCell bL _).setCell bL _).setCell bL _
end
section
variable (aB:Array aj) (cur:ByteArray) (y m p:Int) (cl:List Acc) (cA:Option aG) (cc:Nat) (ro:dZ) (el:List aY) (eA:Option aG) (ec:Nat) (w:Z)
theorem aml (c:Int) (HG:Hid (aB= #[av cur,G F y,G F m,G F p,T cA cl.length cc,G F ro.dU,G F ro.dR,G F ro.dO,G F ro.inventory,G F ro.reserve,G F ro.dV,G F ro.dJ,G F ro.acquired,G F ro.dX,G F ro.dP,G F ro.dN,G F ro.dQ,G F ro.dW,G F ro.difference,G F ro.dL,T eA el.length ec])) (h:eB w cl cA el eA) (hn:cl.length<=300000):
 aF ak 196 #[az aB,G F c] w (MN cl c w):=by
 have H:=I h;clear h;have hb:Below w.heap.size w ((w.alloc (U aB 29)).alloc (U #[G F 0,G F 0,G F 0,G F 0] 212)):=by
  have hb:=aD w.heap.size w;exact bC
 have HB:=I ((au.new w 29 aB).alloc (U #[G F 0,G F 0,G F 0,G F 0] 212));have hD0:=au.new (w.alloc (U aB 29)) 212 #[G F 0,G F 0,G F 0,G F 0];have e1:(w.alloc (U aB 29)).heap.size=w.heap.size+1:=aL;rw[e1]at hD0;have HD:=I hD0;clear hD0 e1;have e4:((w.alloc (U aB 29)).alloc (U #[G F 0,G F 0,G F 0,G F 0] 212)).cell? ⟨w.heap.size,4,J⟩=N (T cA cl.length cc):=(HB.out.cell 4).trans aQ;go_enter Tryz.func196,Tryz.ntmps196;go_wp2_with fail;clear e4;generalize mh:(w.alloc (U aB 29)).alloc (U #[G F 0,G F 0,G F 0,G F 0] 212)=W at*;clear mh;refine(ae9 cl c cA cc W (Rd.now H.out.ch hb) hn).mono ?_;rintro e w2 ⟨rfl,ah⟩;replace hb:=ay hb ah;have hD:=HD.out.step ah;clear ah HB HD;have q0:w2.cell? ⟨w.heap.size+1,0,J⟩=N (G F 0):=hD.cell 0;have q1:w2.cell? ⟨w.heap.size+1,1,J⟩=N (G F 0):=hD.cell 1;have q2:w2.cell? ⟨w.heap.size+1,2,J⟩=N (G F 0):=hD.cell 2;have q3:w2.cell? ⟨w.heap.size+1,3,J⟩=N (G F 0):=hD.cell 3;have z0:=hD.frozen 0;have z1:=hD.frozen 1;have z2:=hD.frozen 2;have z3:=hD.frozen 3;have Oo:=I hD;clear hD;go_wp2_with fail;have hB2:=(((Oo.out.bZ 0 (G F (Ch.bU cl c).code)).bZ 1 (G F (Ch.bU cl c).kind)).bZ 2 (G F (Ch.bU cl c).basis)).bZ 3 (G F (Ch.bU cl c).parent);have p0:=hB2.cell 0;have p1:=hB2.cell 1;have p2:=hB2.cell 2;have p3:=hB2.cell 3;simp only[Array.setIfInBounds]at p0 p1 p2 p3;refine iq (v:= bG #[az #[G F (Ch.bU cl c).code,G F (Ch.bU cl c).kind,G F (Ch.bU cl c).basis,G F (Ch.bU cl c).parent],aA (Ch.eO cl c)]) (by simp[results,Tryz.results196,go_sem,p0,p1,p2,p3]) rfl ?_;exact⟨rfl,(((hb.setCell aL _).setCell aL _).setCell aL _).setCell aL _⟩
def zt (cl:List Acc) (c:Int):Bool:=(Ch.bU cl c).kind==4||(Ch.bU cl c).kind==5
theorem amN (c:Int) (HG:Hid (aB= #[av cur,G F y,G F m,G F p,T cA cl.length cc,G F ro.dU,G F ro.dR,G F ro.dO,G F ro.inventory,G F ro.reserve,G F ro.dV,G F ro.dJ,G F ro.acquired,G F ro.dX,G F ro.dP,G F ro.dN,G F ro.dQ,G F ro.dW,G F ro.difference,G F ro.dL,T eA el.length ec])) (h:eB w cl cA el eA) (hn:cl.length<=300000):
 aF ak 165 #[az aB,G F c] w (fD (zt cl c) w):=by
 cases h4:((Ch.bU cl c).kind==4)
 ·cases h5:((Ch.bU cl c).kind==5)
  ·have HE:Hid (zt cl c=ag):=I (by unfold zt;rw[h4,h5];rfl);have hgi:(ak.info? 29).map (·.size)=N aB.size:=by rw[HG.out];exact gy
   have H:=I h;clear h;have hb:Below w.heap.size w (w.alloc (U aB 29)):=(aD _ _).alloc (aC _) _;have HB:=I (au.new w 29 aB);go_enter Tryz.func165,Tryz.ntmps165;go_wp2_with (first
    |(refine cZ 29 (.tmp 2) rfl (w.heap.size) rfl ai (HB).out bQ hgi ?_)
    |(go_at_call 119;refine(NM aB cur y m p cl cA cc ro el eA ec _ c HG (H.out.step hb) hn).mono ?_;rintro e w2 ⟨rfl,ah⟩;replace hb:=ay hb ah;have hb1:=hb.alloc hb.size (U #[G F (Ch.bU cl c).code,G F (Ch.bU cl c).kind,G F (Ch.bU cl c).basis,G F (Ch.bU cl c).parent] 212)))
   go_ret;exact⟨by rw[HE.out];rfl,hb1⟩
  ·have HE:Hid (zt cl c=ae):=I (by unfold zt;rw[h4,h5];rfl);have hgi:(ak.info? 29).map (·.size)=N aB.size:=by rw[HG.out];exact gy
   have H:=I h;clear h;have hb:Below w.heap.size w (w.alloc (U aB 29)):=(aD _ _).alloc (aC _) _;have HB:=I (au.new w 29 aB);go_enter Tryz.func165,Tryz.ntmps165;go_wp2_with (first
    |(refine cZ 29 (.tmp 2) rfl (w.heap.size) rfl ai (HB).out bQ hgi ?_)
    |(go_at_call 119;refine(NM aB cur y m p cl cA cc ro el eA ec _ c HG (H.out.step hb) hn).mono ?_;rintro e w2 ⟨rfl,ah⟩;replace hb:=ay hb ah;have hb1:=hb.alloc hb.size (U #[G F (Ch.bU cl c).code,G F (Ch.bU cl c).kind,G F (Ch.bU cl c).basis,G F (Ch.bU cl c).parent] 212)))
   go_ret;exact⟨by rw[HE.out];rfl,hb1⟩
 ·have HE:Hid (zt cl c=ae):=I (by unfold zt;rw[h4];rfl);have hgi:(ak.info? 29).map (·.size)=N aB.size:=by rw[HG.out];exact gy
  have H:=I h;clear h;have hb:Below w.heap.size w (w.alloc (U aB 29)):=(aD _ _).alloc (aC _) _;have HB:=I (au.new w 29 aB);go_enter Tryz.func165,Tryz.ntmps165;go_wp2_with (first
   |(refine cZ 29 (.tmp 2) rfl (w.heap.size) rfl ai (HB).out bQ hgi ?_)
   |(go_at_call 119;refine(NM aB cur y m p cl cA cc ro el eA ec _ c HG (H.out.step hb) hn).mono ?_;rintro e w2 ⟨rfl,ah⟩;replace hb:=ay hb ah;have hb1:=hb.alloc hb.size (U #[G F (Ch.bU cl c).code,G F (Ch.bU cl c).kind,G F (Ch.bU cl c).basis,G F (Ch.bU cl c).parent] 212)))
  go_ret;exact⟨by rw[HE.out];rfl,hb1⟩
end
end Go.Proofs.YtbedbfdhfokifaaGreat
