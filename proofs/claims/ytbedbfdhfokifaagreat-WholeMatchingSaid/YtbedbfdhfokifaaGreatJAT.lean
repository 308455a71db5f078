/- Part of the proof of WholeMatching. -/
import Derived.Test.YtbedbfdhfokifaaGreatJAD
import Derived.Test.YtbedbfdhfokifaaGreatJAM
import Derived.Test.YtbedbfdhfokifaaGreatJAO
namespace Go.Proofs.YtbedbfdhfokifaaGreat
set_option maxRecDepth 100000
set_option maxHeartbeats 16000000
set_option linter.unusedVariables false
set_option linter.unusedSimpArgs false
open _root_.And renaming intro->cz
open _root_.Bool renaming true->ae,false->ag
open Go renaming World->Z,Calls->aF,Addr->aG,CallsIn->aaM,Value->aj,maxLen->bK,Program->dH,Ending->eG,Operand->lU
open Go.Builtin renaming zeroCells->lX
open Go.Ending renaming returned->bM
open Go.IntKind renaming i64->F
open Go.Obj renaming cells->U
open Go.Proofs.Tryz renaming prog->ak
open Go.Value renaming int->G,slice->T,bool->aA,pointer->aN,string->av,agg->az,tuple->bG
open _root_.Option renaming none->J,some->N
open Go.RowKit
section
open Go.Maps (Keyed)
theorem aiB (l:List aM) (e d:Int) (A:Option aG) (cp:Nat) (w:Z) (hr:Rd w w.heap.size 4 A l.length (cellsOf aM.cells l)) (hn:l.length<=1000) (hs: ∀ x∈l,0<=x.share/\x.share<=10000) (hw: ∀ x∈l,Wf x.holder):
 aF ak 127 #[T A l.length cp,G F e,G F d] w (Gj (aT.total l e d) w):=by
 have HR:=I hr;have HW:=I hw;have hb:=aD w.heap.size w;have KA:=I (λh W hr=>Zu l A cp h e d W hr hn);have HS:=I hs;have hmm:= @rC ak;clear hr hs hw;go_enter Tryz.func127,Tryz.ntmps127;go_wp2_with fail;go_loopw [15] (λt wr=> ∃ k:Nat,k<=l.length/\t= G F k/\rR ak 3 4 wr w.heap.size k ((l.take k).map aM.holder)/\Below w.heap.size w wr) (λt _=>l.length - (intOf t).toNat)
 case atStart=>exact⟨0,O,rfl,rR.made w,hb.alloc hb.size _⟩
 case round=>
  clear hb;obtain⟨k,hk,rfl,hK,hb⟩:=hrel;have hz:=hb.size
  by_cases hlt:k<l.length
  ·obtain⟨b,o,hA,aX,f0,f1,f2,f3⟩:=aM.at_ (Rd.now HR.out hb) hlt;subst hA;have hwf:=HW.out _ (bP hlt);have HT:Hid ((l.take (k+1)).map aM.holder=(l.take k).map aM.holder++ [l[k].holder]):=I (by rw[gY hlt,mJ];rfl);generalize l[k]=x at*;obtain⟨xh,xe,xd,xs⟩:=x;dsimp only at*;have hKx:=hK.alloc (U #[G F xh,G F xe,G F xd,G F xs] 79);have hb2:Below w.heap.size w (wr.alloc (U #[G F xh,G F xe,G F xd,G F xs] 79)):=hb.alloc hb.size _;clear hK;go_wp2_with (at_mapUpdate;refine acn rfl _ _ _ 98 rfl dh iX wR hKx fQ xh hwf rfl rfl rfl ?_;intro w5 Tf hg5;have hb5:Below w.heap.size w w5:=ni hb2 hg5 hb2.size (λj hj=>by injection hj with hj;omega);clear hg5 hKx);go_roundw
   case rel=>exact⟨k+1,O,by go_num,by rw[HT.out];exact Tf,hb5⟩
   case measure=>simp[intOf];omega
  ·have hle:l.take k=l:=kS O;rw[hle]at hK;obtain⟨D,hown,hM,hD⟩:=hK;have HC:=I (afx hD);have hln:=hown.lt;clear hM hD hle;go_wp2_with (at_range;refine wpList_range_own _ rfl _ 98 rfl 3 4 OM wR _ w.heap.size k D rfl hown ?_;intro w0 hrg0 hg0 hs0);have hb0:Below w.heap.size w w0:=ni hb hg0 hz (λj hj=>by cases hj);obtain⟨r,hr⟩: ∃ r,r=wr.heap.size:=⟨_,rfl⟩;rw[<- hr]at hrg0 hs0 |-;have hrl:w.heap.size<r:=by rw[hr];exact hln
   clear hr hb hg0 hs0 hown;go_frame;go_loopw [10] (λs wr=> ∃ (L:List Int) (left:Lit->Bool) (cnt:Nat),wr.ranges ak 3 (plainElem ak 4) w.heap.size r k D left cnt/\IE (l.map aM.holder) left L/\s= .int .i64 (aT.jA l e d L)/\Below w.heap.size w wr) (λ_ wr=>wr.rangeLeft w.heap.size r)
   case atStart=>exact⟨[],_,_,hrg0,HC.out,rfl,hb0⟩
   case round=>
    clear hrg0 hb0 HC;obtain⟨L,left,cnt,hrg,hC,rfl,hb⟩:=hrel;have HC:=I hC;have hz:=hb.size;have GU:L.length<=l.length:=by
     have:=Mt.Ut L (l.map aM.holder) hC.1 (λx hx=>(hC.2 x).1.2 (.inl hx))
     simpa using this
    have hbd:=aT.aca l e d HS.out L;clear hC;go_wp2_with (at_next;refine ao4 rfl _ rfl OM dh iX w.heap.size r k _ _ _ rfl hrg ?_ ?_)
    ·intro hl0;obtain⟨hnd,hmem⟩:=afw HC.out hl0;have HE:Hid (aT.total l e d=aT.jA l e d L):=I (aT.aov l e d (alO (aT.agR l) hnd (λc=>by rw[aT.akr,hmem,iW])));clear hl0 hnd hmem hrg;generalize aT.jA l e d L=sm at*;go_wp2_with fail;go_ret;exact⟨by rw[HE.out];rfl,hb⟩
    ·intro x vx w1 cnt1 hwx hlx hrg1 hlt1 hg1 hs1 hen;have hb1:Below w.heap.size w w1:=ni hb hg1 hz (λj hj=>by injection hj with hj;omega);have HT:=I (afy HC.out hlx);have Ju:=I (KA.out x);have hxb:=aT.JE l x e d HS.out;have HE:Hid (aT.jA l e d (L++ [x])=aT.jA l e d L+aT.at_ l x e d):=I (by rw[aT.ab9];simp[aT.jA]);generalize aT.jA l e d L=sm at*;generalize aT.at_ l x e d=a at*;have hws:F.wrap (sm+a)=sm+a:=iL _ O;clear hbd hxb GU hlx hs1 hg1;go_wp2_with (go_at_call 178;refine(Ju.out _ (Rd.now HR.out hb1)).mono ?_;rintro ee w3 ⟨rfl,ah⟩;have hb4:=ay hb1 ah);have Z6:=hrg1.kept (sF ah J) aL aL;go_roundw
     case rel=>exact⟨L++ [x],strike left x,cnt1,Z6,HT.out,by rw[HE.out],hb4⟩
     case measure=>rw[Z6.left_eq,hrg.left_eq];exact hlt1
end
section
open Go.Maps (Keyed)
theorem afG (c:Int) (w:Z) (h:65<=c/\c<=90):aF ak 151 #[G .u8 c] w λe w'=>e= bM (aA ag)/\w=w':=by
 obtain⟨h1,h2⟩:=h;have e1: ¬ c<65:=O;have e2: ¬ 90<c:=O;go_enter Tryz.func151,Tryz.ntmps151;go_wp2_with fail;go_ret;exact⟨by simp[e1,e2],rfl⟩
theorem aiQ (b n cap:Nat) (f:Nat->Int) (w:Z) (hb0:b<w.heap.size) (hc: ∀ j,j<n->w.cell? ⟨b,j,J⟩=N (G .u8 (f j))) (hf: ∀ j,j<n->65<=f j/\f j<=90) (hn:n<=1000):
 aF ak 224 #[T (N ⟨b,0,J⟩) n cap,.func (.func 151) #[] #[]] w λe w'=>e= bM (G F (-1))/\w=w':=by
 have HC:=I hc;have HF:=I hf;clear hc hf;go_enter Tryz.func224,Tryz.ntmps224;go_wp2_with fail;go_loopw [5,8] (λ_ t wr=> ∃ k:Nat,k<=n/\t= G F k/\w=wr) (λ_ t _=>n - (intOf t).toNat)
 case atStart=>exact⟨0,O,rfl,rfl⟩
 case round=>
  obtain⟨k,hk,rfl,rfl⟩:=hrel
  by_cases hlt:k<n
  ·have hcl:=HC.out k hlt;have hB:=I (λW=>afG (f k) W (HF.out k hlt));generalize f k=c at*;go_wp2_with (go_at_call 151;refine(hB.out _).mono ?_;rintro e w2 ⟨rfl,rfl⟩);go_roundw
   case rel=>exact⟨k+1,O,by go_num,trivial⟩
   case measure=>simp[intOf];omega
  ·go_wp2_with fail;go_ret;exact⟨rfl,rfl⟩
theorem afz (b n cap:Nat) (f:Nat->Int) (w:Z) (hb0:b<w.heap.size) (hc: ∀ j,j<n->w.cell? ⟨b,j,J⟩=N (G .u8 (f j))) (hf: ∀ j,j<n->65<=f j/\f j<=90) (hn:n<=1000):
 aF ak 150 #[T (N ⟨b,0,J⟩) n cap,.func (.func 151) #[] #[]] w λe w'=>e= bM (aA ag)/\w=w':=by
 have K:=I (aiQ b n cap f w hb0 hc hf hn);clear hc hf;go_enter Tryz.func150,Tryz.ntmps150;go_wp2_with (go_at_call 224;refine K.out.mono ?_;rintro e w2 ⟨rfl,rfl⟩);go_ret;exact⟨rfl,rfl⟩
theorem afI {s:ByteArray} (h:Gr.ed s=ae):s.size=3/\ ∀ (j:Nat) (hj:j<s.size),65<=(s[j].toNat:Int)/\(s[j].toNat:Int)<=90:=by
 unfold Gr.ed at h;simp only[bR,dm]at h;refine⟨h.2,λj hj=> ?_⟩;have:=tO h.1 hj;rw[Gr.byte_at s j hj]at this;unfold Gr.om at this
 simpa using this
theorem Ps (s:ByteArray) (w:Z) (h:Gr.ed s=ae):aF ak 102 #[av s] w λe w'=>e= .returned (aA ae)/\Below w.heap.size w w':=by
 obtain⟨h3,hb⟩:=afI h;have hcv: ∀ W:Z,_:=λW=>run_bytes_of_string (P:=ak) W 9 241 5 s zF Tryz.underlying241 Tryz.underlying5
 have HB:Hid (Below w.heap.size w (w.alloc (.cells (bytesRow s (grownCap w s.size 0 5)) 5 ((bytesRow s (grownCap w s.size 0 5)).size,(bytesRow s (grownCap w s.size 0 5)).size+1))).drew):=I ((aD _ w).alloc (aC _) _).drew;have K:=I (afz w.heap.size s.size (grownCap w s.size 0 5) (λj=>((s.data.toList.getD j 0).toNat:Int)) (w.alloc (.cells (bytesRow s (grownCap w s.size 0 5)) 5 ((bytesRow s (grownCap w s.size 0 5)).size,(bytesRow s (grownCap w s.size 0 5)).size+1))).drew
  aL (λj hj=>by
   have hj':j<s.data.size:=hj;rw[World.cell?_drew,World.cell?_alloc_mark,bytesRow_at s _ j hj'];rw[show (s.data.toList.getD j 0)=s.data[j] from by simp[List.getD,Array.getElem?_eq_getElem hj']]) (λj hj=>by
   have hj':j<s.data.size:=hj;rw[show (s.data.toList.getD j 0)=s.data[j] from by simp[List.getD,Array.getElem?_eq_getElem hj']];exact hb j hj) O)
 have hs3:((s.size:Int)==3)=ae:=by rw[h3];rfl
 clear hb h h3;go_enter Tryz.func102,Tryz.ntmps102;go_wp2_with (go_at_call 150;refine K.out.mono ?_;rintro e w2 ⟨rfl,rfl⟩);go_ret;exact⟨rfl,HB.out⟩
def aW.val (r:aW):aj:= az #[av r.cK,G F r.kind,G F r.eF,G F r.value]
def aW.key (r:aW):aj:= az #[av r.cK,G F r.kind,G F r.eF]
theorem am9 (c:ByteArray) (k t:Int):(#[av c,G F k,G F t]:Array aj).all (·.oneCell')=ae:=by
 simp[Value.oneCell']
theorem abH:(ak.info? 196).map (·.size)=N 3:=ai
theorem LJ (c:ByteArray) (k t v:Int) (w:Z):aF ak 101 #[az #[av c,G F k,G F t,G F v]] w λe w'=>e= .returned (az #[av c,G F k,G F t])/\Below w.heap.size w w':=by
 have hb:Below w.heap.size w ((w.alloc (U #[av c,G F k,G F t,G F v] 136)).alloc (U #[av ⟨#[]⟩,G F 0,G F 0] 196)):=((aD _ w).alloc (aC _) _).alloc aL _;have HB:=I ((au.new w 136 #[av c,G F k,G F t,G F v]).alloc (U #[av ⟨#[]⟩,G F 0,G F 0] 196));have HZ:=I (eT w (U #[av c,G F k,G F t,G F v] 136) 196 #[av ⟨#[]⟩,G F 0,G F 0]);go_enter Tryz.func101,Tryz.ntmps101;go_upto_region 1 with fail
 generalize (w.alloc (U #[av c,G F k,G F t,G F v] 136)).alloc (U #[av ⟨#[]⟩,G F 0,G F 0] 196)=W at*;have f0:=HB.out.cell 0;have f1:=HB.out.cell 1;have f2:=HB.out.cell 2;go_wp2_with (refine oQ rfl 196 (.tmp 2) (.tmp 9) rfl (w.heap.size+1) #[av c,G F k,G F t] rfl rfl 196 #[av ⟨#[]⟩,G F 0,G F 0] HZ.out abH rfl (am9 c k t) ?_);refine iq (v:= az #[av c,G F k,G F t]) (FL Tryz.results101 _ _ (w.heap.size+1) 196 #[av c,G F k,G F t] (0,0) _ rfl (mQ HZ.out _) P7 rfl abH) rfl ?_;exact⟨rfl,oJ hb O⟩
theorem aeY {a b:ByteArray} (h:a.data.toList=b.data.toList):a=b:=by
 rcases a with ⟨x⟩
 rcases b with ⟨y⟩
 simp at h;rw[h]
theorem Dn (a b:ByteArray):(a.toList==b.toList)=decide (a=b):=by
 rw[P8,P8,qm];simp only[vD,dm];exact⟨aeY,λh=>by rw[h]⟩
theorem al1 {g:ByteArray} {r:aW} (h:Rt.proper g r=ae):Gr.ed r.cK=ae/\r.cK≠g/\1<=r.value/\r.value<=1000000000000/\((r.kind=1/\Gr.eZ r.eF=ae)\/(r.kind=2/\0<=r.eF/\r.eF<120)):=by
 simp only[Rt.proper,Rt.aav,bR,ou,dm,Dv,Mo,vD]at h;exact h
theorem anB (g:ByteArray) (r:aW) (w:Z) (h:Rt.proper g r=ae):aF ak 100 #[av g,r.val] w λe w'=>e= .returned (aA ae)/\Below w.heap.size w w':=by
 obtain⟨h1,h2,h3,h4,h5⟩:=al1 h;have K1:=I (λW=>Ps r.cK W h1);have K2:=I (λW=>Cm r.eF W);clear h h1;unfold aW.val;obtain⟨c,k,t,v⟩:=r;dsimp only at*;have e2:(c.toList==g.toList)=ag:=by rw[Dn];exact iw h2
 have e3: ¬ v<1:=O;have e4: ¬ 1000000000000<v:=O;have hb:Below w.heap.size w (w.alloc (U #[av c,G F k,G F t,G F v] 136)):=(aD _ w).alloc (aC _) _;have HB:=I (au.new w 136 #[av c,G F k,G F t,G F v])
 rcases h5 with ⟨rfl,hd⟩|⟨rfl,hd1,hd2⟩
 ·rw[hd]at K2;go_enter Tryz.func100,Tryz.ntmps100;go_wp2_with (first
   |(go_at_call 102;refine(K1.out _).mono ?_;rintro e w2 ⟨rfl,hb2⟩;have hb3:=ay hb hb2;have hB2:=HB.out.step hb2;have f0:=hB2.cell 0;have f1:=hB2.cell 1;have f2:=hB2.cell 2;have f3:=hB2.cell 3)
   |(go_at_call 84;refine(K2.out _).mono ?_;rintro e w3 ⟨rfl,rfl⟩))
  go_ret;exact⟨rfl,hb3⟩
 ·go_enter Tryz.func100,Tryz.ntmps100;go_wp2_with (first
   |(go_at_call 102;refine(K1.out _).mono ?_;rintro e w2 ⟨rfl,hb2⟩;have hb3:=ay hb hb2;have hB2:=HB.out.step hb2;have f0:=hB2.cell 0;have f1:=hB2.cell 1;have f2:=hB2.cell 2;have f3:=hB2.cell 3)
   |(go_at_call 84;refine(K2.out _).mono ?_;rintro e w3 ⟨rfl,rfl⟩))
  go_ret;exact⟨by simp[hd1,hd2],hb3⟩
end
section
open Go.Maps (Keyed)
theorem aas:Keyed ak 196:=Mq (deep_law_laid ai (m:=3) aJ (iY ai) ai ai)
theorem aor (d:Nat) (hd:0<d) {s:ByteArray} (hs:s.size<=bK):(ak).keyLits d 9 [.string s]=N [.string s.data.toList]:=by
 obtain⟨d,rfl⟩: ∃ k,d=k+1:=⟨d - 1,O⟩;unfold Program.keyLits;rw[zF];simp[hs]
theorem ams (r:aW) (hs:r.cK.size<=bK) (h1:Wf r.kind) (h2:Wf r.eF): ∃ l,keyOf ak 196 r.key=N l:=by
 have k1:(ak).keyType 196=ae:=ai;have k2:(ak).cellsOf 196=3:=ai;have k3:(ak).cellsOf 3=1:=ai;have k4:(ak).cellsOf 9=1:=ai;unfold keyOf aW.key;rw[P7];simp only[k1,Value.formed,P7,k2,qC];unfold Program.keyLits;rw[P7];simp[k2,k3,k4,Value.cells,aor _ _ hs,AB _ _ h1,AB _ _ h2]
theorem am8 {a b:aW}:a.key=b.key↔Rt.sameKey a b=ae:=by
 simp[aW.key,Rt.sameKey]
open Classical in
noncomputable def yn (L:List aW) (k:Nat) (v:aj):Bool:=decide (∃ x∈L.take k,v=x.key)
theorem amr (L:List aW):yn L 0=λ_=>ag:=by
 funext v
 simp[yn]
theorem amn {g:ByteArray} {L:List aW} (h:Rt.valid g L=ae) (k:Nat) (hk:k<L.length):yn L k L[k].key=ag:=by
 simp only[Rt.valid,bR]at h;have h1:=tO h.1 hk;simp only[Rt.one,bR,getD_lt L k default hk,Dv,Rt.before]at h1;have h2:=h1.2;unfold yn;rw[Mo];rintro⟨x,hx,e⟩;have h3:Rt.sameKey x L[k]=ae:=am8.1 e.symm;rw[uy]at h2;exact h2 x hx h3
theorem amo (L:List aW) (k:Nat) (h:k<L.length):yn L (k+1) L[k].key=ae:=by
 unfold yn;rw[gY h];simp only[dm];exact⟨L[k],il.2 (.inr (iJ.2 rfl)),rfl⟩
theorem amq (L:List aW) (k:Nat) (h:k<L.length) (u:aj) (hu:u≠L[k].key):yn L (k+1) u=yn L k u:=by
 unfold yn;rw[gY h,qm];simp only[dm,il,iJ]
 constructor
 ·rintro⟨x,hx|rfl,e⟩
  ·exact⟨x,hx,e⟩
  ·exact absurd e hu
 ·rintro⟨x,hx,e⟩;exact⟨x,.inl hx,e⟩
theorem Pt (g:ByteArray) (L:List aW) (A:Option aG) (cp:Nat) (w:Z) (hr:Rd w w.heap.size 4 A L.length (cellsOf aW.cells L)) (hw: ∀ r∈L,r.cK.size<=bK/\Wf r.kind/\Wf r.eF) (h:Rt.valid g L=ae):
 aF ak 69 #[av g,T A L.length cp] w λe w'=>e= .returned (aA ae)/\Below w.heap.size w w':=by
 have HR:=I hr;have HW:=I hw;have kr:=I (amn h);have HP:=I (Rt.PK h);have hcg:Gr.ed g=ae/\L.length<=1000:=by simp only[Rt.valid,bR,dm]at h;exact h.2
 obtain⟨hcg,hln⟩:=hcg;have KC:=I (λW=>Ps g W hcg);have hb:=aD w.heap.size w;have hmm:= @rC ak;clear hr hw h hcg;go_enter Tryz.func69,Tryz.ntmps69;go_wp2_with fail;go_loopw [11] (λt wr=> ∃ k:Nat,k<=L.length/\t= G F k/\fw ak 196 4 wr w.heap.size k (yn L k)/\Below w.heap.size w wr) (λt _=>L.length - (intOf t).toNat)
 case atStart=>exact⟨0,O,rfl,by rw[amr];exact fw.made w,hb.alloc hb.size _⟩
 case round=>
  clear hb;obtain⟨k,hk,rfl,hS,hb⟩:=hrel;have hz:=hb.size
  by_cases hlt:k<L.length
  ·obtain⟨b,o,hA,aX,f0,f1,f2,f3⟩:=aW.at_ (Rd.now HR.out hb) hlt;subst hA;obtain⟨q0,q1,q2⟩:=HW.out _ (bP hlt);have nO:=I (HP.out _ (bP hlt));have eP:=I (kr.out k hlt);have HS2:=I (amo L k hlt);have gK:=I (amq L k hlt);generalize L[k]=x at*;have K1:=I (λW=>anB g x W nO.out);obtain⟨kl,hkl⟩:=ams x q0 q1 q2;unfold aW.val at K1;unfold aW.key at eP HS2 gK hkl;obtain⟨f,t,s,v⟩:=x;dsimp only at*;have nH:Below w.heap.size w (wr.alloc (U #[av f,G F t,G F s,G F v] 136)):=hb.alloc hb.size _;have oW:=I (au.new wr 136 #[av f,G F t,G F s,G F v]);have HSx:=I (hS.alloc (U #[av f,G F t,G F s,G F v] 136));have K2:=I (λW=>LJ f t s v W);clear hS;go_upto_region 5 with fail
   generalize wr.alloc (U #[av f,G F t,G F s,G F v] 136)=w1 at*;have e0:=oW.out.cell 0;have e1:=oW.out.cell 1;have e2:=oW.out.cell 2;have e3:=oW.out.cell 3;go_upto_region 7 with (first
    |(go_at_call 100;refine(K1.out _).mono ?_;rintro e w2 ⟨rfl,hb2⟩;have OA:=ay nH hb2;have yF:=I (oW.out.step hb2);have Nr:=I (HSx.out.step hb2);have g0:=yF.out.cell 0;have g1:=yF.out.cell 1;have g2:=yF.out.cell 2;have g3:=yF.out.cell 3;clear hb2 e0 e1 e2 e3)
    |(go_at_call 101;refine(K2.out _).mono ?_;rintro e w3 ⟨rfl,hb3⟩;have hbC:=ay OA hb3;have MV:=I (yF.out.step hb3);have Ns:=I (Nr.out.step hb3);have k0:=MV.out.cell 0;have k1:=MV.out.cell 1;have k2:=MV.out.cell 2;have k3:=MV.out.cell 3;have iO:=Ns.out.look (t:=194) aas iX Tryz.underlying194 (uY _) hkl;rw[eP.out]at iO;clear hb3 g0 g1 g2 g3))
   clear iO;go_wp2_with (first
    |(go_at_call 101;refine(K2.out _).mono ?_;rintro e w4 ⟨rfl,hb4⟩;have hbD:=ay hbC hb4;have Km:=Ns.out.step hb4;clear hb4 k0 k1 k2 k3)
    |(at_mapUpdate;refine Bf (yn L (k+1)) rfl _ _ _ 194 rfl aas iX Tryz.underlying194 Km fQ (az #[av f,G F t,G F s]) kl ae hkl rfl rfl rfl HS2.out (λu lu _ hu=>gK.out u hu) ?_;intro w5 hS5 hg5;have hb5:Below w.heap.size w w5:=ni hbD hg5 hbD.size (λj hj=>by injection hj with hj;omega);clear hg5 Km))
   go_roundw
   case rel=>exact⟨k+1,O,by go_num,hS5,hb5⟩
   case measure=>simp[intOf];omega
  ·have GU:(L.length:Int)<=1000:=O;go_wp2_with (go_at_call 102;refine(KC.out _).mono ?_;rintro e w2 ⟨rfl,hb2⟩;have hb3:=ay hb hb2);go_ret;exact⟨by simp[hln],hb3⟩
end
section
variable (w:Z)
theorem al8 (s:ByteArray) (h:Gr.ed s=ae):aF ak 283 #[av s] w λe w'=>e= .returned (aA ag)/\Below w.heap.size w w':=by
 have K:=I (Ps s w h);go_enter Tryz.func283,Tryz.ntmps283;go_wp2_with (go_at_call 102;refine K.out.mono ?_;rintro e w2 ⟨rfl,hb2⟩);go_ret;exact⟨rfl,hb2⟩
theorem amc (s:ByteArray) (h:Gr.ed s=ae) (g:Nat) (t:TypeId) (hg:au w g t #[av s]):aF ak 299 #[T (N ⟨g,0,J⟩) 1 1,.func (.func 283) #[] #[]] w λe w'=>e= .returned (G F (-1))/\Below w.heap.size w w':=by
 have HG:=I hg;have hb:=aD w.heap.size w;have K:=I (λW=>al8 W s h);clear hg;go_enter Tryz.func299,Tryz.ntmps299;go_wp2_with fail;go_loopw [5,8] (λ_ t wr=>Below w.heap.size w wr/\(t= G F 0\/t= G F 1)) (λ_ t _=>1 - (intOf t).toNat)
 case atStart=>exact⟨hb,.inl rfl⟩
 case round=>
  clear hb;obtain⟨hb,rfl|rfl⟩:=hrel
  ·have g0:wr.cell? ⟨g,0,J⟩=N (av s):=(HG.out.step hb).cell 0;go_wp2_with (go_at_call 283;refine(K.out _).mono ?_;rintro e w2 ⟨rfl,ah⟩;have hb2:=ay hb ah;clear ah);go_roundw
   case rel=>exact⟨hb2,.inr (by go_num)⟩
   case measure=>simp[intOf]
  ·go_wp2_with fail;go_ret;exact⟨rfl,hb⟩
theorem al9 (s:ByteArray) (h:Gr.ed s=ae) (g:Nat) (t:TypeId) (hg:au w g t #[av s]):aF ak 282 #[T (N ⟨g,0,J⟩) 1 1,.func (.func 283) #[] #[]] w λe w'=>e= .returned (aA ag)/\Below w.heap.size w w':=by
 have K:=I (amc w s h g t hg);go_enter Tryz.func282,Tryz.ntmps282;go_wp2_with (go_at_call 299;refine K.out.mono ?_;rintro e w2 ⟨rfl,hb2⟩);go_ret;exact⟨rfl,hb2⟩
theorem al7 (aB:Array aj) (ja:ByteArray) (hgs:aB.size=21) (hg0:aB[0]? =N (av ja)) (L:List aW) (A:Option aG) (cp:Nat) (hr:Rd w w.heap.size 4 A L.length (cellsOf aW.cells L)) (hw: ∀ r∈L,r.cK.size<=bK/\Wf r.kind/\Wf r.eF) (hv:Rt.valid ja L=ae) (s:ByteArray) (hs:Gr.ed s=ae) (day:Int) (hd:Gr.eZ day=ae) (g:Nat) (t:TypeId) (hg:au w g t #[av s]):
 aF ak 261 #[az aB,T A L.length cp,G F day,T (N ⟨g,0,J⟩) 1 1] w λe w'=>e= .returned (G F 0)/\Below w.heap.size w w':=by
 have HR:=I hr;have KV:=I (λW h=>Pt ja L A cp W h hw hv);have KC:=I (λW h=>al9 W s hs g t h);have KD:Hid (∀ W:Z,aF ak 84 #[G F day] W λe w'=>e= bM (aA ae)/\W=w'):=I (λW=>by have:=Cm day W;rwa [hd]at this);have hgz:(ak.info? 29).map (·.size)=N aB.size:=by rw[hgs];exact gy
 have hb1:Below w.heap.size w (w.alloc (U aB 29)):=(aD _ _).alloc (aC _) _;have HB:=I (au.new w 29 aB);have HG:=I hg;clear hr hw hg;go_enter Tryz.func261,Tryz.ntmps261;go_upto_region 1 with fail
 generalize w.alloc (U aB 29)=W at*;have k0:W.cell? ⟨w.heap.size,0,J⟩=N (av ja):=(HB.out.cell 0).trans hg0;go_wp2_with (first
  |(go_at_call 69;refine(KV.out _ (Rd.now HR.out hb1)).mono ?_;rintro e w3 ⟨rfl,ah⟩;have hb3:=ay hb1 ah;clear ah)
  |(go_at_call 282;refine(KC.out _ (HG.out.step hb3)).mono ?_;rintro e w4 ⟨rfl,ah⟩;have hb4:=ay hb3 ah;clear ah)
  |(go_at_call 84;refine(KD.out _).mono ?_;rintro en w5 ⟨rfl,rfl⟩))
 go_ret;exact⟨rfl,hb4⟩
end
def DI (o:Option Int) (w:Z) (e:eG) (w':Z):Prop:=
 ((∃ v,o=N v/\e= bM (bG #[G F v,G F 0]))\/(o=J/\ ∃ u E:Int,E≠0/\e= bM (bG #[G F u,G F E])))/\Below w.heap.size w w'
def Ai (n:Int):Option Int:=if pF n then N n else J
section
variable (w:Z)
theorem ako (n:Int):aF ak 162 #[G F n] w (DI (Ai n) w):=by
 have hb:=aD w.heap.size w;unfold DI
 cases h:pF n
 ·have HO:Hid (Ai n=J):=I (by unfold Ai;rw[h];rfl);go_enter Tryz.func162,Tryz.ntmps162;go_wp2_with (go_at_call 116;refine(Da n _).mono ?_;rintro e w9 ⟨rfl,rfl⟩;rw[h]);go_ret2;exact⟨.inr ⟨HO.out,0,2,aJ,rfl⟩,hb⟩
 ·have HO:Hid (Ai n=N n):=I (by unfold Ai;rw[h];rfl);go_enter Tryz.func162,Tryz.ntmps162;go_wp2_with (go_at_call 116;refine(Da n _).mono ?_;rintro e w9 ⟨rfl,rfl⟩;rw[h]);go_ret2;exact⟨.inl ⟨n,HO.out,rfl⟩,hb⟩
theorem afB (n r:Int) (hr:0<=r) (a q s:Int) (ha:a=max n (-n)) (hq:q=r / 1000000) (hs:s=r % 1000000):
 Rt.conv n r=if 0<q/\1000000000000 / q<a then J else Ai (if n<0 then -(a*q+(2*a*s+1000000) / 2000000) else a*q+(2*a*s+1000000) / 2000000):=by
 have e1:((n.natAbs:Nat):Int)=a:=O;unfold Rt.conv;simp only[e1,<- hq,<- hs];have h0:0<=a:=O
 split
 ·rfl
 ·have hq0:0<=q:=by rw[hq];exact Int.ediv_nonneg hr O
  have hs0:0<=s:=by rw[hs];exact Int.emod_nonneg _ O
  have h1:0<=a*q:=IA h0 hq0;have h2:0<=2*a*s:=IA O hs0;have h3:0<=(2*a*s+1000000) / 2000000:=O;generalize (2*a*s+1000000) / 2000000=D at*;generalize a*q=M at*;unfold Ai pF
  by_cases hv:M+D<=1000000000000
  ·rw[bB hv]
   by_cases hn:n<0
   ·rw[bB hn,bB];simp only[bR,dm];omega
   ·rw[bE hn,bB];simp only[bR,dm];omega
  ·rw[bE hv]
   by_cases hn:n<0
   ·rw[bB hn,bE];simp only[bR,dm];omega
   ·rw[bE hn,bE];simp only[bR,dm];omega
theorem akt (n r:Int) (hn: -1000000000000<=n/\n<=1000000000000) (hr:1<=r/\r<=1000000000000):aF ak 117 #[G F n,G F r,G F 1000000] w (DI (Rt.conv n r) w):=by
 have hb:=aD w.heap.size w;have HC:=I (afB n r O (max n (-n)) (r / 1000000) (r % 1000000) rfl rfl rfl);have KC:=I (λx W=>ako W x);have e1:F.wrap (-n)= -n:=iL _ O;have e2:r.tdiv 1000000=r / 1000000:=Ik O;have e3:r.tmod 1000000=r % 1000000:=Int.tmod_eq_emod_of_nonneg O;have q0:0<=r / 1000000:=O;have q1:r / 1000000<=1000000:=O;have s0:0<=r % 1000000:=O;have s1:r % 1000000<=999999:=O;have e4:F.wrap (r / 1000000)=r / 1000000:=iL _ O;have e5:F.wrap (r % 1000000)=r % 1000000:=iL _ O;have a0:0<=max n (-n):=O;have a1:max n (-n)<=1000000000000:=O;generalize hA:max n (-n)=A at*;go_enter Tryz.func117,Tryz.ntmps117;go_wp2_with fail;go_quiet (fail);replace hb:=iC hb nq;clear e1 e2 e3 e4 e5;generalize w.drewN nq=w2 at*;generalize r / 1000000=q at*;generalize r % 1000000=s at*;have h2s:0<=2*A*s:=IA O s0;have h2u:2*A*s<=2000000000000*999999:=Int.mul_le_mul O s1 s0 O;have hq1:0<=A*q:=IA a0 q0;have e7:(1000000000000:Int).tdiv q=1000000000000 / q:=Ik O;have c3:1000000000000 / q<=1000000000000:=Int.ediv_le_self _ O;have c4:0<=1000000000000 / q:=Int.ediv_nonneg O q0;have e8:F.wrap (1000000000000 / q)=1000000000000 / q:=iL _ O
 cases c1:decide (0<q)
 case false=>
  have hq:q=0:=by have:=j3 c1;omega
  have hC:Hid (Rt.conv n r=Ai (if n<0 then -(A*q+(2*A*s+1000000) / 2000000) else A*q+(2*A*s+1000000) / 2000000)):=I (by rw[HC.out,bE O]);have hM:A*q<=1000000000000:=by rw[hq];omega
  clear hq;have f1:F.wrap (A*q)=A*q:=iL _ O;have f2:F.wrap (2*A)=2*A:=iL _ O;have f3:F.wrap (2*A*s)=2*A*s:=iL _ O;have f4:F.wrap (2*A*s+1000000)=2*A*s+1000000:=iL _ O;have f5:(2*A*s+1000000).tdiv 2000000=(2*A*s+1000000) / 2000000:=Ik O;have f6:F.wrap ((2*A*s+1000000) / 2000000)=(2*A*s+1000000) / 2000000:=iL _ O;have f7:F.wrap (A*q+(2*A*s+1000000) / 2000000)=A*q+(2*A*s+1000000) / 2000000:=iL _ O;have f8:F.wrap (-(A*q+(2*A*s+1000000) / 2000000))= -(A*q+(2*A*s+1000000) / 2000000):=iL _ O
  cases c9:decide (n<0)
  case true=>
   have hC2:=hC.out;rw[bB (iY c9)]at hC2;have mf:=I hC2;clear hC2;go_wp2_with (go_at_call 162;refine(KC.out _ _).mono ?_;rintro e w9 ⟨⟨v,hv,rfl⟩|⟨hv,u,E,hE,rfl⟩,ah⟩)
   all_goals go_ret2
   ·exact⟨.inl ⟨v,mf.out.trans hv,rfl⟩,ay hb ah⟩
   ·exact⟨.inr ⟨mf.out.trans hv,u,E,hE,rfl⟩,ay hb ah⟩
  case false=>
   have hC2:=hC.out;rw[bE (j3 c9)]at hC2;have mf:=I hC2;clear hC2;go_wp2_with (go_at_call 162;refine(KC.out _ _).mono ?_;rintro e w9 ⟨⟨v,hv,rfl⟩|⟨hv,u,E,hE,rfl⟩,ah⟩)
   all_goals go_ret2
   ·exact⟨.inl ⟨v,mf.out.trans hv,rfl⟩,ay hb ah⟩
   ·exact⟨.inr ⟨mf.out.trans hv,u,E,hE,rfl⟩,ay hb ah⟩
 case true=>
  have hq:0<q:=iY c1
  cases c2:decide (1000000000000 / q<A)
  case true=>
   have hC:Hid (Rt.conv n r=J):=I (by rw[HC.out,bB ⟨hq,iY c2⟩]);go_wp2_with fail;go_ret2;exact⟨.inr ⟨hC.out,0,2,aJ,rfl⟩,hb⟩
  case false=>
   have hle:A<=1000000000000 / q:=by have:=j3 c2;omega
   have hM:A*q<=1000000000000:=Int.mul_le_of_le_ediv hq hle;have hC:Hid (Rt.conv n r=Ai (if n<0 then -(A*q+(2*A*s+1000000) / 2000000) else A*q+(2*A*s+1000000) / 2000000)):=I (by rw[HC.out,bE O]);have f1:F.wrap (A*q)=A*q:=iL _ O;have f2:F.wrap (2*A)=2*A:=iL _ O;have f3:F.wrap (2*A*s)=2*A*s:=iL _ O;have f4:F.wrap (2*A*s+1000000)=2*A*s+1000000:=iL _ O;have f5:(2*A*s+1000000).tdiv 2000000=(2*A*s+1000000) / 2000000:=Ik O;have f6:F.wrap ((2*A*s+1000000) / 2000000)=(2*A*s+1000000) / 2000000:=iL _ O;have f7:F.wrap (A*q+(2*A*s+1000000) / 2000000)=A*q+(2*A*s+1000000) / 2000000:=iL _ O;have f8:F.wrap (-(A*q+(2*A*s+1000000) / 2000000))= -(A*q+(2*A*s+1000000) / 2000000):=iL _ O
   cases c9:decide (n<0)
   case true=>
    have hC2:=hC.out;rw[bB (iY c9)]at hC2;have mf:=I hC2;clear hC2;go_wp2_with (go_at_call 162;refine(KC.out _ _).mono ?_;rintro e w9 ⟨⟨v,hv,rfl⟩|⟨hv,u,E,hE,rfl⟩,ah⟩)
    all_goals go_ret2
    ·exact⟨.inl ⟨v,mf.out.trans hv,rfl⟩,ay hb ah⟩
    ·exact⟨.inr ⟨mf.out.trans hv,u,E,hE,rfl⟩,ay hb ah⟩
   case false=>
    have hC2:=hC.out;rw[bE (j3 c9)]at hC2;have mf:=I hC2;clear hC2;go_wp2_with (go_at_call 162;refine(KC.out _ _).mono ?_;rintro e w9 ⟨⟨v,hv,rfl⟩|⟨hv,u,E,hE,rfl⟩,ah⟩)
    all_goals go_ret2
    ·exact⟨.inl ⟨v,mf.out.trans hv,rfl⟩,ay hb ah⟩
    ·exact⟨.inr ⟨mf.out.trans hv,u,E,hE,rfl⟩,ay hb ah⟩
theorem akp (n r:Int) (hn:pF n=ae) (hr:1<=r/\r<=1000000000000):aF ak 74 #[G F n,G F r] w (DI (Rt.conv n r) w):=by
 have hn2: -1000000000000<=n/\n<=1000000000000:=by simpa [pF] using hn
 have KP:=I (akt w n r hn2 hr);have d1:decide (r<1)=ag:=iw O;have d2:decide (1000000000000<r)=ag:=iw O;unfold DI at*;go_enter Tryz.func74,Tryz.ntmps74;go_upto_region 3 with (go_at_call 116;refine(Da n _).mono ?_;rintro e w9 ⟨rfl,rfl⟩;rw[hn])
 go_wp2_with (go_at_call 117;refine KP.out.mono ?_;rintro e w9 ⟨⟨v,hv,rfl⟩|⟨hv,u,E,hE,rfl⟩,ah⟩)
 all_goals go_ret2
 ·exact⟨.inl ⟨v,hv,rfl⟩,ah⟩
 ·exact⟨.inr ⟨hv,u,E,hE,rfl⟩,ah⟩
end
theorem akW (x:Int): ∃ r:Int,(x=0->r=0)/\ ∀ w:Z,aF ak 141 #[.int .u64 x] w (λe w'=>e= bM (G F r)/\w'=w):=by
 by_cases h:x=0
 ·subst h;refine⟨0,λ_=>rfl,λw=> ?_⟩;go_enter Tryz.func141,Tryz.ntmps141;go_wp2;go_ret;exact⟨by kernel_rfl,rfl⟩
 ·refine⟨?_,λe=>absurd e h,λw=> ?_⟩
  rotate_left
  ·go_enter Tryz.func141,Tryz.ntmps141;go_wp2;go_ret;refine⟨?_,rfl⟩;refine congrArg bM ?_;simp only[Array.getD,nk,gX,mI,Nat.reduceAdd,Nat.reduceLT,dite_true,MG,Bh,Du,VI]
   rfl
theorem akX (x:Int): ∃ r:Int,(x=0->r=0)/\ ∀ w:Z,aF ak 93 #[.int .u64 x] w (λe w'=>e= bM (G F r)/\w'=w):=by
 obtain⟨r,h0,K⟩:=akW x;refine⟨r,h0,λw=> ?_⟩;go_enter Tryz.func93,Tryz.ntmps93;go_wp2_with (go_at_call 141;refine(K _).mono ?_;rintro e w2 ⟨rfl,rfl⟩);go_ret;exact⟨rfl,rfl⟩
theorem abD (x:Int): ∃ r:Int,∀ w:Z,aF ak 213 #[.int .u64 x] w (λe w'=>e= bM (.int .u64 r)/\w'=w):=by
 refine⟨?_,λw=> ?_⟩
 rotate_left
 ·go_enter Tryz.func213,Tryz.ntmps213;go_wp2;go_ret;refine⟨?_,rfl⟩;refine congrArg bM ?_;simp only[Array.getD,nk,gX,mI,Nat.reduceAdd,Nat.reduceLT,dite_true,MG,Bh,Du,VI]
  rfl
noncomputable def amP (x:Int):Int:=Classical.choose (abD x)
theorem amQ (x:Int) (w:Z):aF ak 213 #[.int .u64 x] w (λe w'=>e= bM (.int .u64 (amP x))/\w'=w):=Classical.choose_spec (abD x) w
theorem abB (x:Int): ∃ r:Int,∀ w:Z,aF ak 144 #[.int .u64 x] w (λe w'=>e= bM (.int .u64 r)/\w'=w):=by
 refine⟨?_,λw=> ?_⟩
 rotate_left
 ·go_enter Tryz.func144,Tryz.ntmps144;go_wp2_with (go_at_call 213;refine(amQ _ _).mono ?_;rintro e w2 ⟨rfl,rfl⟩);go_ret;refine⟨?_,rfl⟩;refine congrArg bM ?_;simp only[Array.getD,nk,gX,mI,Nat.reduceAdd,Nat.reduceLT,dite_true,MG,Bh,Du,VI]
  rfl
noncomputable def mF (x:Int):Int:=Classical.choose (abB x)
theorem amT (x:Int) (w:Z):aF ak 96 #[.int .u64 x] w (λe w'=>e= bM (.int .u64 (mF x))/\w'=w):=by
 have K:=Classical.choose_spec (abB x)
 change ∀ w:Z,aF ak 144 #[.int .u64 x] w (λe w'=>e= bM (.int .u64 (mF x))/\w'=w) at K
 go_enter Tryz.func96,Tryz.ntmps96;go_wp2_with (go_at_call 144;refine(K _).mono ?_;rintro e w2 ⟨rfl,rfl⟩);go_ret;exact⟨rfl,rfl⟩
section
open Go.RowKit Go.Shelf
def R3 {α:Type} (bf:Fence) (n:Nat) (P:dH) (g:Nat) (lb:Array aj) (encs:α->Array aj) (Kp:Z->Z->Prop) (w:Z):Prop:=
 ∀ (l:Nat) (fF Jx:Z->Prop) (W:Z),Below w.heap.size w W->(∀ A C,fF A->Below W.heap.size A C->fF C)->
  (∀ x W1,fF W1->YieldAt bf (n - 1) P l (encs x) W1 λe W'=>(e= .returned (aA ae)/\fF W'/\Kp W1 W')\/(e= .returned (aA ag)/\Jx W'))->fF W->
  aaM bf n P g (#[.func (.yield l) #[] #[]]++lb) W λe W'=>(∃ v,e= bM v)/\(fF W'\/Jx W')
def leave:Exit->Option Code
 | .ret=>N .ret
 | .exit id=>N (.exit id)
 | .goto t=>N (.goto t)
 |_=>J
def abg (B:Nat) (Kp:Z->Z->Prop) (dM:Z->Prop) (Ix:Code->Z->Prop) (W:Z) (e:Exit) (_:Act) (W':Z):Prop:=
 KeepsFrom B W W'/\((e= .normal/\Kp W W'/\dM W')\/ ∃ c,leave e=N c/\Ix c W')
structure nR (b:Nat) (rec:LoopState->Option Code->Loop) (st:LoopState) (pe:Option Code) (W:Z):Prop where
 loop:W.heap[b+1]? =N (.loop (rec st pe))
 book:W.heap[b]? =N (.deferred (N []))
section
variable {bf:Fence} {n:Nat} {P:dH} {b:Nat} {rec:LoopState->Option Code->Loop} {st st':LoopState} {pe UN:Option Code} {W W':Z}
theorem nR.below (h:nR b rec st pe W) (hb:Below (b+2) W W'):nR b rec st pe W':=⟨(hb.block _ O).trans h.loop,(hb.block _ O).trans h.book⟩
theorem nR.keeps (h:nR b rec st pe W) (hk:KeepsFrom b W W'):nR b rec st pe W':=⟨hk.same _ _ O h.loop rfl,hk.same _ _ (aC _) h.book rfl⟩
theorem nR.lt (h:nR b rec st pe W):b+1<W.heap.size:=(nM.1 h.loop).1
theorem nR.turn (h:nR b rec st pe W):nR b rec st' UN (W.putObj (b+1) (.loop (rec st' UN))):=⟨World.putObj_heap_same h.lt,(World.putObj_heap_other O).trans h.book⟩
theorem nR.under (h:nR b rec st pe W) (o:Obj):Below b W (W.putObj (b+1) o):=(aD _ W).grown (grownBy_putObj' W _ o) (by have:=h.lt;omega) (λj e=>by cases e;omega)
variable {α:Type} {ps:Array Tmp} {assign body:Code} {encs:α->Array aj} {Kp:Z->Z->Prop} {dM:Z->Prop} {Ix:Code->Z->Prop} {fn:FuncId} {tmps:Array aj}
theorem ang {m:Nat} (hrec: ∀ st pe,rec st pe= { state:=st,pending:=pe,fn,tmps,params:=ps,assign,body,defers:=b }) (hfn:bf.fn fn) (hKt: ∀ {A B C:Z},Kp A B->Kp B C->Kp A C)
 (hKb: ∀ (W:Z) (l:Nat) (o o':Obj),b<=l->W.heap[l]? =N o->o.isCells=ag->o.isWalk=ag->Kp W (W.putObj l o')) (hI: ∀ A C,dM A->Below b A C->dM C) (hIx: ∀ c,OwnFrom b (λ(_:Unit) W=>Ix c W))
 (x:α) (hps:(encs x).size=ps.size) (a₁:Act)
 (hassign: ∀ (W:Z) (K:Act->Z->Prop),K a₁ W->assign.wpIn (bf.inRound (b+1)) m P (Exit.then K (λ_ _ _=>False)) { tmps:=(ps.zip (encs x)).foldl (λt (p,v)=>t.setIfInBounds p v) tmps,defers:= [] } W)
 (hbody: ∀ W:Z,dM W->b+2<=W.heap.size->body.wpIn (bf.inRound (b+1)) m P (abg b Kp dM Ix W) a₁ W) (hi:dM W) (h:nR b rec .ready J W):
 YieldAt bf m P (b+1) (encs x) W λe W'=>(e= .returned (aA ae)/\(dM W'/\nR b rec .ready J W')/\Kp W W')\/(e= .returned (aA ag)/\ ∃ c,Ix c W'/\nR b rec .done (N c) W'):=by
 have hy:=run_yield (P:=P) (args:=encs x) h.loop (by rw[hrec];exact hps);rw[hrec]at hy;refine⟨fn,_,assign,body,hy,roundIn_of_wpIn hfn (hassign W _ ⟨_,run_beginRound h.loop (by rw[hrec]),?_⟩)⟩;have hb:nR b rec .busy J (W.putObj (b+1) (.loop { rec .ready J with state:= .busy })):=by
  have:=h.turn (st':= .busy) (UN:=J);rw[hrec]at this |-;exact this
 have hk0:=hKb W (b+1) _ (.loop { rec .ready J with state:= .busy }) O h.loop rfl rfl;refine wpIn_mono (hbody _ (hI _ _ hi (h.under _)) hb.lt) ?_;rintro e a3 W3 ⟨hk,hp⟩;have h3:=hb.keeps hk;have hend: ∀ jump:Option Code,(Instr.endRound (b+1) jump).run P W3= .ok (aA jump.isNone) (W3.putObj (b+1) (.loop (rec (if jump.isNone then .ready else .done) jump))):=λjump=>by
  have:=run_endRound (P:=P) jump h3.loop;rw[hrec]at this |-;exact this
 rcases hp with ⟨rfl,hkp,hi3⟩|⟨c,hc,hx⟩
 ·exact⟨_,_,hend J,.inl ⟨rfl,⟨hI _ _ hi3 (h3.under _),h3.turn⟩,hKt (hKt hk0 hkp) (hKb _ _ _ _ O h3.loop rfl rfl)⟩⟩
 ·have hx':=(hIx c).putObj (s:=()) (.loop (rec .done (N c))) hx O h3.loop rfl;have fin:=hend (N c)
  cases e<;>simp only[leave,Fy,reduceCtorEq]at hc<;>subst hc<;>exact⟨_,_,fin,.inr ⟨rfl,_,hx',h3.turn⟩⟩
theorem ao3 {g:lU} {Q:Exit->Act->Z->Prop} {a:Act} {w w0:Z} (hro:bf.round=J) (h1:1<=n) {gf:Nat} {lb:Array aj} (hg:a.eval g= .func (.func gf) #[] lb) (hFg:bf.fn gf) (eg: ∀ args w,(callFunc gf args).run P w= .ok (.enter gf args) w)
 (hseq:R3 bf (n - 1) P gf lb encs Kp w0) (hKt: ∀ {A B C:Z},Kp A B->Kp B C->Kp A C)
 (hKb: ∀ (W:Z) (l:Nat) (o o':Obj),w.heap.size<=l->W.heap[l]? =N o->o.isCells=ag->o.isWalk=ag->Kp W (W.putObj l o')) (hb0:Below w0.heap.size w0 w) (hps: ∀ x,(encs x).size=ps.size)
 (hI: ∀ A C,dM A->Below w.heap.size A C->dM C) (hIx: ∀ c,OwnFrom w.heap.size (λ(_:Unit) W=>Ix c W)) (h0:dM w) (p:Tmp) (val:α->aj)
 (hassign: ∀ (l:Nat) (x:α) (W:Z) (K:Act->Z->Prop),K { tmps:=((ps.zip (encs x)).foldl (λt (p,v)=>t.setIfInBounds p v) a.tmps).setIfInBounds p (val x),defers:= [] } W->assign.wpIn (bf.inRound l) (n - 1 - 1) P (Exit.then K (λ_ _ _=>False)) { tmps:=(ps.zip (encs x)).foldl (λt (p,v)=>t.setIfInBounds p v) a.tmps,defers:= [] } W)
 (hbody: ∀ (l:Nat) (x:α) (W:Z),dM W->w.heap.size+2<=W.heap.size->body.wpIn (bf.inRound l) (n - 1 - 1) P (abg w.heap.size Kp dM Ix W) { tmps:=((ps.zip (encs x)).foldl (λt (p,v)=>t.setIfInBounds p v) a.tmps).setIfInBounds p (val x),defers:= [] } W)
 (hdone: ∀ (D:Nat) (W:Z),w.heap.size<=D->dM W->W.heap[D]? =N (.deferred (N []))->Q .normal { a with defers:= { target:= .collected D,args:= #[] }::a.defers } W)
 (hstop: ∀ (D:Nat) (c:Code) (W:Z),w.heap.size<=D->Ix c W->W.heap[D]? =N (.deferred (N []))->c.wpIn bf n P Q { a with defers:= { target:= .collected D,args:= #[] }::a.defers } W):
 (Code.rangeFunc g ps assign body).wpIn bf n P Q a w:=by
 refine wpIn_rangeFunc λfn hfn=> ?_
 rw[hro];obtain⟨rec,hrec⟩: ∃ rec:LoopState->Option Code->Loop,∀ st pe,rec st pe= { state:=st,pending:=pe,fn,tmps:=a.tmps,params:=ps,assign,body,defers:=w.heap.size }:=⟨_,λ_ _=>rfl⟩;obtain⟨W1,hW1⟩: ∃ W1,(w.alloc (.deferred (N []))).alloc (.loop (rec .ready J))=W1:=⟨_,rfl⟩;have hz:W1.heap.size=w.heap.size+2:=by rw[<- hW1];simp
 have hR:nR w.heap.size rec .ready J W1:=by
  rw[<- hW1];exact⟨by have:=World.alloc_heap_new (w.alloc (.deferred (N []))) (.loop (rec .ready J));rwa [fG]at this,(L8 _ _ _ aL).trans (World.alloc_heap_new w _)⟩
 have hbw:Below w.heap.size w W1:=by rw[<- hW1];exact((aD _ w).alloc (aC _) _).alloc aL _
 have hent:(Instr.enterLoop fn a.tmps ps assign body J).run P w= .ok (w.heap.size+1,[{ target:= .collected w.heap.size,args:= #[] }]) W1:=by
  rw[<- hW1,hrec];exact run_enterLoop_outer _ _ _ _ _
 clear hW1;refine⟨w.heap.size+1,[{ target:= .collected w.heap.size,args:= #[] }],W1,{ target:= .fn (.func gf) lb,args:= #[.func (.yield (w.heap.size+1)) #[] #[]] },W1,gf,#[.func (.yield (w.heap.size+1)) #[] #[]]++lb,W1,hent,?_,?_,?_,λ_=>h1,?_⟩
 ·simp only[resolve,hg];simp[go_sem]
 ·intro f' hf';simp[Target.leads]at hf';subst hf';exact hFg
 ·simp[invoke,go_sem,eg]
 refine(hseq (w.heap.size+1) (λW=>dM W/\nR w.heap.size rec .ready J W) (λW=> ∃ c,Ix c W/\nR w.heap.size rec .done (N c) W) _ (hb0.trans (hbw.mono hb0.size))
  (λA C hs hb=>by rw[hz]at hb;exact⟨hI _ _ hs.1 (hb.mono O),hs.2.below hb⟩)
  (λx W hs=>ang (Kp:=Kp) (dM:=dM) (Ix:=Ix) hrec hfn hKt hKb hI hIx x (hps x) _ (hassign _ x) (hbody _ x) hs.1 hs.2) ⟨hI _ _ h0 hbw,hR⟩).mono ?_
 rintro e W2 ⟨⟨v,rfl⟩,⟨hi,hl⟩|⟨c,hi,hl⟩⟩
 ·exact⟨J,_,by have:=run_endLoop (P:=P) hl.loop (by rw[hrec];simp);rw[hrec]at this;exact this,hdone _ _ (aC _) (hI _ _ hi (hl.under _)) ((World.putObj_heap_other O).trans hl.book)⟩
 ·exact⟨N c,_,by have:=run_endLoop (P:=P) hl.loop (by rw[hrec];simp);rw[hrec]at this;exact this,hstop _ c _ (aC _) ((hIx c).putObj (s:=()) _ hi O hl.loop rfl) ((World.putObj_heap_other O).trans hl.book)⟩
end
end
noncomputable def Ey (a b:Int):Int:=if mF b<mF a then -1 else if mF a<mF b then 1 else 0
theorem aos (a b:Int) (w:Z):aF ak 95 #[.int .u64 a,.int .u64 b] w (λe w'=>e= bM (G F (Ey a b))/\w'=w):=by
 have K:=I amT;have HD:Hid (Ey a b=if mF b<mF a then -1 else if mF a<mF b then 1 else 0):=I rfl;generalize Ey a b=R at*
 cases h1:decide (mF b<mF a)
 ·cases h2:decide (mF a<mF b)
  ·have e:Hid (R=0):=I (by rw[HD.out,bE (j3 h1),bE (j3 h2)]);go_enter Tryz.func95,Tryz.ntmps95;go_wp2_with (go_at_call 96;refine(K.out _ _).mono ?_;rintro en w2 ⟨rfl,rfl⟩);go_ret;exact⟨jg e.out.symm,rfl⟩
  ·have e:Hid (R=1):=I (by rw[HD.out,bE (j3 h1),bB (iY h2)]);go_enter Tryz.func95,Tryz.ntmps95;go_wp2_with (go_at_call 96;refine(K.out _ _).mono ?_;rintro en w2 ⟨rfl,rfl⟩);go_ret;exact⟨jg e.out.symm,rfl⟩
 ·have e:Hid (R= -1):=I (by rw[HD.out,bB (iY h1)]);go_enter Tryz.func95,Tryz.ntmps95;go_wp2_with (go_at_call 96;refine(K.out _ _).mono ?_;rintro en w2 ⟨rfl,rfl⟩);go_ret;exact⟨jg e.out.symm,rfl⟩
section
open Go.RowKit Go.Shelf
attribute [local go_sem] Oper.semAt_some
structure Mk (M:Nat) where
 val:Int
 lo:1<=val
 hi:val<M
def Mk.enc {M:Nat} (x:Mk M):Array aj:= #[.int .u64 x.val]
def UA (M:Nat) (l:List Int):Prop:= ∀ m∈l,1<=m/\m<M
def AQ (l:List Int):List aj:=l.map (G .u64)
def BQ (s b:Nat) (W W':Z):Prop:=fI s b 1 W W'/\ ∀ B cs fz,b<=B->W.heap[B]? =N (.cells cs 149 fz)->W'.heap[B]? =W.heap[B]?
theorem aju {s b:Nat}: ∀ {A W C:Z},BQ s b A W->BQ s b W C->BQ s b A C:=λh g=>⟨h.1.trans g.1,λB cs fz h1 h2=>by
 have h3:=h.2 B cs fz h1 h2;exact(g.2 B cs fz h1 (h3.trans h2)).trans h3⟩
theorem ajt {s b:Nat} {W:Z} {l:Nat} {o o':Obj} (hs:s<=l) (hb:b<l) (h:W.heap[l]? =N o) (ho:o.isCells=ag) (hw:o.isWalk=ag):BQ s b W (W.putObj l o'):=
 ⟨⟨(aD s W).grown (grownBy_putObj' W l o') (by have:=(nM.1 h).1;omega) (λk e=>by cases e;omega),λB _ hB=>World.putObj_heap_other O⟩,λB cs fz _ h2=>World.putObj_heap_other (by rintro rfl;rw[h]at h2;cases h2;cases ho)⟩
theorem aot (k:Int) (w:Z):aF ak 64 #[G F k] w λee w'=>ee= bM (.func (.func 92) #[] #[aN (N ⟨w.heap.size,0,J⟩)])/\w'=w.alloc (U #[G F k] 3):=by
 go_enter Tryz.func64,Tryz.ntmps64;go_wp2;go_ret;exact⟨rfl,rfl⟩
def XO (base:Nat) (v:aj) (l:List Int) (w:Z) (e:eG) (w':Z):Prop:=
 e= .returned (.tuple #[])/\ ∃ l2:List Int,l2.Perm l/\w'.ownsRow base 149 1 v l2.length (AQ l2)/\w.grownBy w' v.ownBlock
theorem aou (bf:Fence) (q:Nat) (hq:3<=q) (Av:bf.fn 92) (hF1:bf.fn 93) (hF2:bf.fn 94) (hro:bf.round=J) (k M:Nat) (hk:k<=12) (hM:M=2 ^ k) (s b:Nat) (w:Z) (hs:s<=w.heap.size) (hsb:s<=b) (b0:au w b 3 #[G F k])
 (hS: ∀ (base:Nat) (v:aj) (l:List Int) (W:Z),l.length<1000000000->W.ownsRow base 149 1 v l.length (AQ l)->aaM bf (q - 1) ak 94 #[v,.func (.func 95) #[] #[]] W (XO base v l W))
 (Zh: ∀ x:Int,∃ r:Int,(x=0->r=0)/\ ∀ w:Z,aaM bf (q - 1) ak 93 #[.int .u64 x] w (λe w'=>e= bM (G F r)/\w'=w)):
 R3 bf q ak 92 #[aN (N ⟨b,0,J⟩)] (Mk.enc (M:=M)) (BQ s b) w:=λl' fF Jx W hW hJ hY h0=>by
 have HB0:Hid (au W b 3 #[G F k]):=I (b0.below hW b0.lt);have HJ:=I hJ;have HY:=I hY;have HS:=I hS;have hbW:=HB0.out.lt;have OJ:s<=W.heap.size:=iT hs hW.size;have HM:=I hM;have qI:=I Zh;have h1:1<=q:=O;have hM2:M<=4096:=by rw[hM];exact uA (n:=2) aJ hk
 obtain⟨i0,hi,hz0,hz1',hz2⟩:=jh (show (ak.info? 149).map (λi=>(i.zero,i.size,i.bytes))=N (N (.int .u64 0),1,8) from ai);clear b0 hW hJ hY hS hM Zh;refine Bl Tryz.func92 rfl Av ?_ hro;simp only[Tryz.ntmps92,nk,gX,mI,Nat.reduceAdd,Nat.reduceSub,qy,qz,qA,qB,oU,oV];gi_wp2;gi_loopw [3] (λt wr=> ∃ n:Nat,t= G F n/\2<=n/\n<=13/\fF wr/\au wr b 3 #[G F k]/\W.heap.size<=wr.heap.size) (λt _=>20 - (intOf t).toNat)
 case atStart=>exact⟨2,rfl,O,O,h0,HB0.out,aC _⟩
 case round=>
  clear h0 HB0;obtain⟨n,rfl,hn1,hn2,zi,hB1,hz1⟩:=hrel;have pQ:=I zi;have HB1:=I hB1;have e0:wr.cell? ⟨b,0,J⟩=N (G F k):=HB1.out.cell 0;clear zi hB1
  by_cases hnk:n<=k
  ·have e2:IntKind.u64.wrap (2 ^ k)=(M:Int):=by
    have h2:((2:Int) ^ k)=(M:Int):=by rw[HM.out];simp
    rw[h2];simp[IntKind.wrap,IntKind.bits,IntKind.signed];omega
   gi_wp2;clear e0 e2;gi_loopw [4,15] (λv t wr=> ∃ (l:List Int) (m:Nat),t= .int .u64 m/\m<=M/\l.length<=m/\UA M l/\wr.ownsRow W.heap.size 149 1 v l.length (AQ l)/\fF wr/\au wr b 3 #[G F k]/\W.heap.size<=wr.heap.size) (λ_ t _=>M - (intOf t).toNat)
   case atStart=>exact⟨[],0,rfl,O,aL,λm h=>by simp at h,jZ _ _ _ _,pQ.out,HB1.out,hz1⟩
   case round=>
    clear pQ HB1 hz1;obtain⟨l,m,rfl,hm1,hlm,hok,hO,zi,hB1,hz1⟩:=hrel;have pQ:=I zi;have HB1:=I hB1;have HO:=I hO;have dx:=I hok;clear zi hB1 hO hok
    by_cases hmM:m<M
    ·obtain⟨r,hr0,Zb⟩:=qI.out (m:Int);have KR:=I Zb;have Rf:=I hr0;clear Zb hr0
     cases hrn:(r==(n:Int))
     ·gi_wp2_with (gi_at_call 93;refine(KR.out _).mono ?_;rintro e w2 ⟨rfl,hw2⟩;obtain rfl:=hw2.symm);go_roundw
      case rel=>exact⟨l,m+1,by go_num,O,O,dx.out,HO.out,pQ.out,HB1.out,hz1⟩
      case measure=>simp[intOf];omega
     ·have hm0:1<=m:=by
       rcases ry m with h|h
       ·have:=Rf.out (by rw[h];rfl);rw[this]at hrn;have:=eq_of_beq hrn;omega
       ·exact h
      have D7:Hid (UA M (l++ [(m:Int)])):=I (λx hx=>by
       rcases il.1 hx with h|h
       ·exact dx.out x h
       ·rw[iJ.1 h];omega)
      have hst:Below W.heap.size wr (wr.alloc (U #[.int .u64 m] 149)):=(aD _ wr).alloc hz1 _;have gm:=I (HO.out.alloc (U #[.int .u64 m] 149));gi_wp2_with (first
       |(gi_at_call 93;refine(KR.out _).mono ?_;rintro e w2 ⟨rfl,hw2⟩;obtain rfl:=hw2.symm)
       |(gi_at_builtin;refine wpListIn_append_own _ rfl _ _ 184 rfl W.heap.size 149 i0 (.int .u64 0) 1 8 Tryz.underlying184 hi hz0 hz1' hz2 rfl aJ _ l.length (AQ l) rfl gm.out ⟨wr.heap.size,0,J⟩ 1 1 [.int .u64 m] rfl rfl (Cf wr _ _ _ rfl) (λu hu=>by simp at hu;subst hu;rfl) fQ O bL ?_;intro v' w1 hown' hgrow _))
      have hb1:Below W.heap.size wr w1:=iI hst bL gm.out hgrow;have hJ2:=HJ.out _ _ pQ.out hb1;have hB2:=HB1.out.below hb1 hbW;have hz2:W.heap.size<=w1.heap.size:=iT hz1 hb1.size;have HN:=I (cz hown' (cz hJ2 hB2));clear hown' hgrow hJ2 hB2 gm HO;gi_wp2;go_roundw
      case rel=>exact⟨l++ [(m:Int)],m+1,by go_num,O,bL,D7.out,by rw[fK,ow];unfold AQ;rw[mJ];exact HN.out.1,HN.out.2.1,HN.out.2.2,hz2⟩
      case measure=>simp[intOf];omega
    ·obtain⟨A,c,rfl,-⟩:=Rd.dE HO.out;have HL2:l.length<=4096:=O;have KS:=I (HS.out _ _ _ _ O HO.out);gi_wp2_with (gi_at_call 94;refine(KS.out).mono ?_;rintro e w3 ⟨rfl,l2,hp,ho3,hg3⟩);have hb3:Below W.heap.size wr w3:=iI (aD _ wr) hz1 HO.out hg3;have hJ3:=HJ.out _ _ pQ.out hb3;have hB3:=HB1.out.below hb3 hbW;have hz3:W.heap.size<=w3.heap.size:=iT hz1 hb3.size;have hok2:UA M l2:=λx hx=>dx.out x (hp.mem_iff.1 hx)
     have hlen:l2.length=l.length:=hp.length_eq;have D7:=I hok2;rw[hlen]at ho3;have xA:=I hJ3;have HB3:=I hB3;have jq:=I ho3;have HLEN:=I hlen;clear hJ3 hB3 hok2 ho3 hb3 hg3 hp KS hlen HO pQ HB1 dx;gi_wp2;gi_loopw [31] (λt wr=> ∃ j:Nat,t= G F j/\j<=l.length/\wr.ownsRow W.heap.size 149 1 (T A l.length c) l.length (AQ l2)/\fF wr/\au wr b 3 #[G F k]/\W.heap.size<=wr.heap.size) (λt _=>l.length - (intOf t).toNat)
     case atStart=>exact⟨0,rfl,O,jq.out,xA.out,HB3.out,hz3⟩
     case round=>
      clear xA HB3 jq hz3;obtain⟨j,rfl,hjl,hO,zi,hB1,hz1⟩:=hrel;have HB1:=I hB1;have HO:=I hO;clear hB1
      by_cases hlt:j<l.length
      ·obtain⟨A5,c5,e5,hrd⟩:=Rd.dE hO;injection e5 with e5 _ e7
       subst e5 e7;obtain⟨bb,o,e6,aX,hc⟩:=hrd.2 O;have hj2:j<l2.length:=by rw[HLEN.out];exact hlt
       have hc0:=hc j (.int .u64 l2[j]) (by simp[AQ,hj2]);subst e6;have hmk:=D7.out l2[j] (bP hj2);have uP:=HY.out ⟨l2[j],hmk.1,hmk.2⟩ wr zi;unfold Mk.enc at uP;dsimp only at uP;generalize l2[j]=x at*;obtain⟨fn,tmps,assign,body,hy,hR⟩:=uP;clear hO hc hrd zi hmk;gi_wp2;refine hR.mono ?_;rintro ee W5 (⟨rfl,Kc,hk5⟩|⟨rfl,Td⟩)
       ·have Ki:W5.ownsRow W.heap.size 149 1 (T (N ⟨bb,o,J⟩) l.length c) l.length (AQ l2):=
         ⟨HO.out.1,HO.out.2.imp id λ⟨g,cap,cur,h1,h2,h3,h4⟩=>⟨g,cap,cur,h1,h2,(hk5.2 g cur (0,0) O h3).trans h3,h4⟩⟩
        have HN:=I (cz Ki (cz Kc (hk5.1.blk HB1.out (aC _) O)));have AA:W.heap.size<=W5.heap.size:=iT hz1 hk5.1.1.size;clear Ki Kc hk5 hR hy HO HB1;gi_wp2;go_roundw
        case rel=>exact⟨j+1,by go_num,O,HN.out.1,HN.out.2.1,HN.out.2.2,AA⟩
        case measure=>simp[intOf];omega
       ·gi_wp2;refine iq (Il rfl _ _ _) rfl ?_;exact⟨⟨_,rfl⟩,.inr Td⟩
      ·have pQ:=I zi;clear zi hO;gi_wp2;go_roundw
       case rel=>exact⟨n+1,by go_num,O,O,pQ.out,HB1.out,hz1⟩
       case measure=>simp[intOf];omega
  ·gi_wp2;go_end0;exact⟨⟨_,rfl⟩,.inl pQ.out⟩
end
section
open Go.RowKit Go.Shelf
def Qo {α:Type} (f:α->List aj) (e:TypeId) (sz:Nat) (l:List α) (w:Z) (en:eG) (w':Z):Prop:=
 ∃ (A:Option aG) (c:Nat),en= .returned (T A l.length c)/\gp f w.heap.size e sz w' ⟨l,A,c⟩/\Below w.heap.size w w'
theorem ae2 (n:Nat) (hn:n<=100000) (w:Z):aF ak 67 #[T J 0 0,G F n] w
 (λe w'=> ∃ v:aj,e= .returned v/\w'.ownsRow w.heap.size 70 2 v 0 []/\Below w.heap.size w w'):=by
 obtain⟨i0,hi,hz0,hz1,hz2⟩:=jh aO.info
 rcases ry n with rfl|hp
 ·refine(Any8.slices_Grow_room Tryz.YT J 0 0 0 w (aC _) O O O).mono ?_;rintro e w' ⟨rfl,rfl⟩;exact⟨_,rfl,jZ _ _ _ _,aD _ _⟩
 ·refine(Any8.slices_Grow_grow Tryz.YT i0 (az #[G F 0,G F 0]) hi hz0 (by rw[hz1];decide) J 0 0 n [] w (aC _) O (by rw[hz2];omega) O aL (λ_=>rfl) aL).mono ?_;rintro e w' ⟨rfl,rfl⟩;have hcap:=grownCap_ge w (0+n) 0 70;refine⟨_,rfl,?_,(aD _ _).drew.alloc (aC _) _⟩;have hm:=grownCap_le_maxLen w (0+n) 0 70 fQ;have hsz:((([]:List aj).toArray++lX (az #[G F 0,G F 0]).cells (0+n - 0))++lX (az #[G F 0,G F 0]).cells (grownCap w (0+n) 0 70 - (0+n))).size=grownCap w (0+n) 0 70*2:=by
   generalize grownCap w (0+n) 0 70=C at*;simp only[lX,Value.cells,Array.size_append,Array.size_map,Array.size_range,nk,mI,gX];omega
  exact World.ownsRow_made w.drew _ _ (aC _) hm hsz
theorem Si (l1 l2:List aO) (A1 A2:Option aG) (c1 c2:Nat) (g gc:Nat) (gt:TypeId) (w:Z) (hg:au w g gt #[T A1 l1.length c1,T A2 l2.length c2]) (h1:Rd w w.heap.size 2 A1 l1.length (cellsOf aO.cells l1)) (h2:Rd w w.heap.size 2 A2 l2.length (cellsOf aO.cells l2)) (n1:l1.length<=10000) (n2:l2.length<=10000):
 aF ak 33 #[T (N ⟨g,0,J⟩) 2 gc] w (Qo aO.cells 70 2 (l1++l2) w):=by
 have hb:=aD w.heap.size w;have HG:=I hg;have H1:=I h1;have H2:=I h2;obtain⟨i0,hi,hz0,hz1,hz2⟩:=jh aO.info;have KG:=I (λn (h:n<=100000) W=>ae2 n h W);clear hg h1 h2;go_enter Tryz.func33,Tryz.ntmps33;go_wp2_with fail;go_loopw [3,5,11] (λs _ t wr=>wr=w/\((t= G F 0/\s= G F 0)\/(t= G F 1/\s= G F l1.length)\/(t= G F 2/\s= G F (l1.length+l2.length:Nat)))) (λ_ _ t _=>2 - (intOf t).toNat)
 case atStart=>exact⟨rfl,.inl ⟨rfl,rfl⟩⟩
 case round=>
  obtain⟨hw,hrel⟩:=hrel;obtain rfl:w=wr:=hw.symm;have g0:w.cell? ⟨g,0,J⟩=N (T A1 l1.length c1):=HG.out.cell 0;have g1:w.cell? ⟨g,1,J⟩=N (T A2 l2.length c2):=HG.out.cell 1
  rcases hrel with ⟨rfl,rfl⟩|⟨rfl,rfl⟩|⟨rfl,rfl⟩
  ·go_wp2_with fail;go_roundw
   case rel=>exact⟨trivial,.inr (.inl ⟨by go_num,by go_num⟩)⟩
   case measure=>simp[intOf]
  ·go_wp2_with fail;go_roundw
   case rel=>exact⟨trivial,.inr (.inr ⟨by go_num,by go_num⟩)⟩
   case measure=>simp[intOf]
  ·go_upto_region 10 with (go_at_call 67;refine(KG.out _ O w).mono ?_;rintro e w2 ⟨v,rfl,ho2,hb2⟩;have gJ:=I ho2;clear ho2)
   clear g0 g1 hb;go_wp2_with fail;go_loopw [6,8,27] (λv _ t wr=>Below w.heap.size w wr/\((t= G F 0/\wr.ownsRow w.heap.size 70 2 v 0 [])\/(t= G F 1/\wr.ownsRow w.heap.size 70 2 v l1.length (cellsOf aO.cells l1))\/(t= G F 2/\wr.ownsRow w.heap.size 70 2 v (l1.length+l2.length) (cellsOf aO.cells l1++cellsOf aO.cells l2)))) (λ_ _ t _=>2 - (intOf t).toNat)
   case atStart=>exact⟨hb2,.inl ⟨rfl,gJ.out⟩⟩
   case round=>
    clear hb2 gJ;obtain⟨hb,hrel⟩:=hrel;have hz:=hb.size;have yJ:=I (HG.out.step hb);have g0:wr.cell? ⟨g,0,J⟩=N (T A1 l1.length c1):=yJ.out.cell 0;have g1:wr.cell? ⟨g,1,J⟩=N (T A2 l2.length c2):=yJ.out.cell 1
    rcases hrel with ⟨rfl,ho⟩|⟨rfl,ho⟩|⟨rfl,ho⟩
    ·have HO:=I ho;clear ho;go_wp2_with (at_builtin;(refine zA _ rfl (.tmp 31) (.tmp 32) 54 rfl w.heap.size 70 i0 (az #[G F 0,G F 0]) 2 16 FD hi hz0 hz1 hz2 rfl aJ _ 0 [] rfl HO.out wr.heap.size A1 l1.length c1 (cellsOf aO.cells l1) rfl (Rd.now H1.out hb) (cells_one aO.one l1) (by simp only[bK];omega) O hz ?_));intro v7 w7 eQ eU;have fu:Below w.heap.size w w7:=iI hb hz HO.out eU;have ny:=I eQ;clear eQ eU;go_wp2_with fail;go_roundw
     case rel=>exact⟨fu,.inr (.inl ⟨by go_num,ny.out⟩)⟩
     case measure=>simp[intOf]
    ·have HO:=I ho;clear ho;go_wp2_with (at_builtin;(refine zA _ rfl (.tmp 31) (.tmp 32) 54 rfl w.heap.size 70 i0 (az #[G F 0,G F 0]) 2 16 FD hi hz0 hz1 hz2 rfl aJ _ l1.length _ rfl HO.out wr.heap.size A2 l2.length c2 (cellsOf aO.cells l2) rfl (Rd.now H2.out hb) (cells_one aO.one l2) (by simp only[bK];omega) O hz ?_));intro v7 w7 eQ eU;have fu:Below w.heap.size w w7:=iI hb hz HO.out eU;have ny:=I eQ;clear eQ eU;go_wp2_with fail;go_roundw
     case rel=>exact⟨fu,.inr (.inr ⟨by go_num,ny.out⟩)⟩
     case measure=>simp[intOf]
    ·obtain⟨A3,c3,rfl,-⟩:=Rd.dE ho;have HO:=I ho;clear ho;go_wp2_with fail;go_ret;refine⟨A3,c3,by rw[fK];rfl,?_,hb⟩;unfold gp Sl.val;dsimp only;rw[fK,y8];exact HO.out
theorem ae1 (n:Nat) (hn:n<=100000) (w:Z):aF ak 91 #[T J 0 0,G F n] w
 (λe w'=> ∃ v:aj,e= .returned v/\w'.ownsRow w.heap.size 74 3 v 0 []/\Below w.heap.size w w'):=by
 obtain⟨i0,hi,hz0,hz1,hz2⟩:=jh bH.info
 rcases ry n with rfl|hp
 ·refine(Any8.slices_Grow_room Tryz.YS J 0 0 0 w (aC _) O O O).mono ?_;rintro e w' ⟨rfl,rfl⟩;exact⟨_,rfl,jZ _ _ _ _,aD _ _⟩
 ·refine(Any8.slices_Grow_grow Tryz.YS i0 (az #[G F 0,G F 0,G F 0]) hi hz0 (by rw[hz1];decide) J 0 0 n [] w (aC _) O (by rw[hz2];omega) O aL (λ_=>rfl) aL).mono ?_;rintro e w' ⟨rfl,rfl⟩;have hcap:=grownCap_ge w (0+n) 0 74;refine⟨_,rfl,?_,(aD _ _).drew.alloc (aC _) _⟩;have hm:=grownCap_le_maxLen w (0+n) 0 74 fQ;have hsz:((([]:List aj).toArray++lX (az #[G F 0,G F 0,G F 0]).cells (0+n - 0))++lX (az #[G F 0,G F 0,G F 0]).cells (grownCap w (0+n) 0 74 - (0+n))).size=grownCap w (0+n) 0 74*3:=by
   generalize grownCap w (0+n) 0 74=C at*;simp only[lX,Value.cells,Array.size_append,Array.size_map,Array.size_range,nk,mI,gX];omega
  exact World.ownsRow_made w.drew _ _ (aC _) hm hsz
theorem ae0 (l1 l2:List bH) (A1 A2:Option aG) (c1 c2:Nat) (g gc:Nat) (gt:TypeId) (w:Z) (hg:au w g gt #[T A1 l1.length c1,T A2 l2.length c2]) (h1:Rd w w.heap.size 3 A1 l1.length (cellsOf bH.cells l1)) (h2:Rd w w.heap.size 3 A2 l2.length (cellsOf bH.cells l2)) (n1:l1.length<=10000) (n2:l2.length<=10000):
 aF ak 61 #[T (N ⟨g,0,J⟩) 2 gc] w (Qo bH.cells 74 3 (l1++l2) w):=by
 have hb:=aD w.heap.size w;have HG:=I hg;have H1:=I h1;have H2:=I h2;obtain⟨i0,hi,hz0,hz1,hz2⟩:=jh bH.info;have KG:=I (λn (h:n<=100000) W=>ae1 n h W);clear hg h1 h2;go_enter Tryz.func61,Tryz.ntmps61;go_wp2_with fail;go_loopw [3,5,11] (λs _ t wr=>wr=w/\((t= G F 0/\s= G F 0)\/(t= G F 1/\s= G F l1.length)\/(t= G F 2/\s= G F (l1.length+l2.length:Nat)))) (λ_ _ t _=>2 - (intOf t).toNat)
 case atStart=>exact⟨rfl,.inl ⟨rfl,rfl⟩⟩
 case round=>
  obtain⟨hw,hrel⟩:=hrel;obtain rfl:w=wr:=hw.symm;have g0:w.cell? ⟨g,0,J⟩=N (T A1 l1.length c1):=HG.out.cell 0;have g1:w.cell? ⟨g,1,J⟩=N (T A2 l2.length c2):=HG.out.cell 1
  rcases hrel with ⟨rfl,rfl⟩|⟨rfl,rfl⟩|⟨rfl,rfl⟩
  ·go_wp2_with fail;go_roundw
   case rel=>exact⟨trivial,.inr (.inl ⟨by go_num,by go_num⟩)⟩
   case measure=>simp[intOf]
  ·go_wp2_with fail;go_roundw
   case rel=>exact⟨trivial,.inr (.inr ⟨by go_num,by go_num⟩)⟩
   case measure=>simp[intOf]
  ·go_upto_region 10 with (go_at_call 91;refine(KG.out _ O w).mono ?_;rintro e w2 ⟨v,rfl,ho2,hb2⟩;have gJ:=I ho2;clear ho2)
   clear g0 g1 hb;go_wp2_with fail;go_loopw [6,8,27] (λv _ t wr=>Below w.heap.size w wr/\((t= G F 0/\wr.ownsRow w.heap.size 74 3 v 0 [])\/(t= G F 1/\wr.ownsRow w.heap.size 74 3 v l1.length (cellsOf bH.cells l1))\/(t= G F 2/\wr.ownsRow w.heap.size 74 3 v (l1.length+l2.length) (cellsOf bH.cells l1++cellsOf bH.cells l2)))) (λ_ _ t _=>2 - (intOf t).toNat)
   case atStart=>exact⟨hb2,.inl ⟨rfl,gJ.out⟩⟩
   case round=>
    clear hb2 gJ;obtain⟨hb,hrel⟩:=hrel;have hz:=hb.size;have yJ:=I (HG.out.step hb);have g0:wr.cell? ⟨g,0,J⟩=N (T A1 l1.length c1):=yJ.out.cell 0;have g1:wr.cell? ⟨g,1,J⟩=N (T A2 l2.length c2):=yJ.out.cell 1
    rcases hrel with ⟨rfl,ho⟩|⟨rfl,ho⟩|⟨rfl,ho⟩
    ·have HO:=I ho;clear ho;go_wp2_with (at_builtin;(refine zA _ rfl (.tmp 31) (.tmp 32) 42 rfl w.heap.size 74 i0 (az #[G F 0,G F 0,G F 0]) 3 24 Tryz.underlying42 hi hz0 hz1 hz2 rfl aJ _ 0 [] rfl HO.out wr.heap.size A1 l1.length c1 (cellsOf bH.cells l1) rfl (Rd.now H1.out hb) (cells_one bH.one l1) (by simp only[bK];omega) O hz ?_));intro v7 w7 eQ eU;have fu:Below w.heap.size w w7:=iI hb hz HO.out eU;have ny:=I eQ;clear eQ eU;go_wp2_with fail;go_roundw
     case rel=>exact⟨fu,.inr (.inl ⟨by go_num,ny.out⟩)⟩
     case measure=>simp[intOf]
    ·have HO:=I ho;clear ho;go_wp2_with (at_builtin;(refine zA _ rfl (.tmp 31) (.tmp 32) 42 rfl w.heap.size 74 i0 (az #[G F 0,G F 0,G F 0]) 3 24 Tryz.underlying42 hi hz0 hz1 hz2 rfl aJ _ l1.length _ rfl HO.out wr.heap.size A2 l2.length c2 (cellsOf bH.cells l2) rfl (Rd.now H2.out hb) (cells_one bH.one l2) (by simp only[bK];omega) O hz ?_));intro v7 w7 eQ eU;have fu:Below w.heap.size w w7:=iI hb hz HO.out eU;have ny:=I eQ;clear eQ eU;go_wp2_with fail;go_roundw
     case rel=>exact⟨fu,.inr (.inr ⟨by go_num,ny.out⟩)⟩
     case measure=>simp[intOf]
    ·obtain⟨A3,c3,rfl,-⟩:=Rd.dE ho;have HO:=I ho;clear ho;go_wp2_with fail;go_ret;refine⟨A3,c3,by rw[fK];rfl,?_,hb⟩;unfold gp Sl.val;dsimp only;rw[fK,y8];exact HO.out
end
theorem abm (s:ByteArray) (w:Z) (hs:s.size<=bK):aF ak 54 #[av s] w λe w'=>e= bM (aA (Gr.ed s))/\w=w':=by
 unfold bK at hs;go_enter Tryz.func54,Tryz.ntmps54;go_wp2_with fail;go_loopw [3] (λt wr=> ∃ k:Nat,k<=s.size/\(∀ j,j<k->Gr.om (Gr.byte s j)=ae)/\t= G F k/\w=wr) (λt _=>s.size - (intOf t).toNat)
 case atStart=>exact⟨0,O,λj h=>O,rfl,rfl⟩
 case round=>
  obtain⟨k,hk,hno,rfl,rfl⟩:=hrel;have HN:=I hno;clear hno
  by_cases hlt:k<s.size
  ·have HB:=I (Gr.byte_at s k hlt);have Cz:=Bd s[k]
   by_cases h1:65<=(s[k].toNat:Int)
   ·by_cases h2:(s[k].toNat:Int)<=90
    ·have HE:Hid (Gr.om (Gr.byte s k)=ae):=I (by rw[HB.out];unfold Gr.om;simp[h1,h2]);go_wp2_with fail;go_roundw
     case rel=>
      refine⟨k+1,O,λj h=> ?_,by go_num,trivial⟩
      by_cases e:j=k
      ·subst e;exact HE.out
      ·exact HN.out j O
     case measure=>simp[intOf];omega
    ·have HE:Hid (Gr.ed s=ag):=I (by unfold Gr.ed;rw[kD hlt (by rw[HB.out];unfold Gr.om;simp[h2])];rfl);go_wp2_with fail;go_ret;exact⟨by rw[HE.out];rfl,rfl⟩
   ·have HE:Hid (Gr.ed s=ag):=I (by unfold Gr.ed;rw[kD hlt (by rw[HB.out];unfold Gr.om;simp[h1])];rfl);go_wp2_with fail;go_ret;exact⟨by rw[HE.out];rfl,rfl⟩
  ·have HA:Hid (iZ s.size (λk=>Gr.om (Gr.byte s k))=ae):=I (nT λj hj=>HN.out j O)
   cases h3:((s.size:Int)==3)
   ·have HE:Hid (Gr.ed s=ag):=I (by unfold Gr.ed;rw[HA.out];simp at h3 |-;omega);go_wp2_with fail;go_ret;exact⟨by rw[HE.out];rfl,rfl⟩
   ·have HE:Hid (Gr.ed s=ae):=I (by unfold Gr.ed;rw[HA.out];simp at h3 |-;omega);go_wp2_with fail;go_ret;exact⟨by rw[HE.out];rfl,rfl⟩
theorem ami (a b:aW) (w:Z):aF ak 53 #[a.val,b.val] w λe w'=>e= .returned (.bool (Rt.sameKey a b))/\Below w.heap.size w w':=by
 have HD:Hid (Rt.sameKey a b=(decide (a.cK=b.cK)&&(a.kind==b.kind&&a.eF==b.eF))):=I rfl;unfold aW.val;generalize Rt.sameKey a b=r at*;obtain⟨c,k,t,v⟩:=a;obtain⟨c2,k2,t2,v2⟩:=b;dsimp only at*;have HB:Hid (Below w.heap.size w ((w.alloc (.cells #[.string c,.int .i64 k,.int .i64 t,.int .i64 v] 136)).alloc (.cells #[.string c2,.int .i64 k2,.int .i64 t2,.int .i64 v2] 136))):=I (((aD _ w).alloc (aC _) _).alloc aL _);rw[<- Dn]at HD
 cases h1:(c.toList==c2.toList)<;>cases h2:(k==k2)<;>cases h3:(t==t2)
 all_goals
  rw[h1,h2,h3]at HD;go_enter Tryz.func53,Tryz.ntmps53;go_wp2_with fail;go_ret;exact⟨by rw[HD.out];rfl,HB.out⟩
theorem amh (g:ByteArray) (r:aW) (w:Z) (hs:r.cK.size<=bK):aF ak 52 #[av g,r.val] w λe w'=>e= .returned (aA (Rt.proper g r))/\Below w.heap.size w w':=by
 have HD:Hid (Rt.proper g r=(Gr.ed r.cK&&(!decide (r.cK=g)&&(decide (1<=r.value)&&(decide (r.value<=1000000000000)&&((r.kind==1&&Gr.eZ r.eF)||(r.kind==2&&(decide (0<=r.eF)&&decide (r.eF<120))))))))):=I rfl;have K1:=I (λW=>abm r.cK W hs);have K2:Hid (∀ W:Z,aF ak 55 #[G F r.eF] W λe w'=>e= bM (aA (Gr.eZ r.eF))/\W=w'):=I (λW=>JP r.eF W);unfold aW.val;generalize Rt.proper g r=x at*;obtain⟨c,k,t,v⟩:=r;dsimp only at*;have HB:Hid (Below w.heap.size w (w.alloc (U #[av c,G F k,G F t,G F v] 136))):=I ((aD _ w).alloc (aC _) _);rw[<- Dn]at HD;generalize Gr.ed c=cv at*;generalize Gr.eZ t=dv at*
 cases cv
 ·go_enter DD,DF;go_wp2_with (first
   |(go_at_call 54;refine(K1.out _).mono ?_;rintro e w2 ⟨rfl,rfl⟩)
   |(go_at_call 55;refine(K2.out _).mono ?_;rintro e w3 ⟨rfl,rfl⟩))
  go_ret;exact⟨by rw[HD.out];rfl,HB.out⟩
 by_cases h1:(c.toList==g.toList)=ae
 ·rw[h1]at HD;go_enter DD,DF;go_wp2_with (first
   |(go_at_call 54;refine(K1.out _).mono ?_;rintro e w2 ⟨rfl,rfl⟩)
   |(go_at_call 55;refine(K2.out _).mono ?_;rintro e w3 ⟨rfl,rfl⟩))
  go_ret;exact⟨by rw[HD.out];rfl,HB.out⟩
 replace h1:(c.toList==g.toList)=ag:=by simpa using h1
 rw[h1]at HD
 by_cases h2:v<1
 ·have HE:Hid (x=ag):=I (by rw[HD.out];simp;omega);go_enter DD,DF;go_wp2_with (first
   |(go_at_call 54;refine(K1.out _).mono ?_;rintro e w2 ⟨rfl,rfl⟩)
   |(go_at_call 55;refine(K2.out _).mono ?_;rintro e w3 ⟨rfl,rfl⟩))
  go_ret;exact⟨by rw[HE.out];rfl,HB.out⟩
 by_cases h3:1000000000000<v
 ·have HE:Hid (x=ag):=I (by rw[HD.out];simp;omega);go_enter DD,DF;go_wp2_with (first
   |(go_at_call 54;refine(K1.out _).mono ?_;rintro e w2 ⟨rfl,rfl⟩)
   |(go_at_call 55;refine(K2.out _).mono ?_;rintro e w3 ⟨rfl,rfl⟩))
  go_ret;exact⟨by rw[HE.out];rfl,HB.out⟩
 have HE:Hid (x=((k==1&&dv)||(k==2&&(decide (0<=t)&&decide (t<120))))):=I (by
  rw[HD.out,show decide (1<=v)=ae from kK O,show decide (v<=1000000000000)=ae from kK O];simp)
 clear HD
 by_cases h4:k=1
 ·subst h4
  cases dv
  all_goals
   go_enter DD,DF;go_wp2_with (first
    |(go_at_call 54;refine(K1.out _).mono ?_;rintro e w2 ⟨rfl,rfl⟩)
    |(go_at_call 55;refine(K2.out _).mono ?_;rintro e w3 ⟨rfl,rfl⟩))
   go_ret;exact⟨by rw[HE.out];simp,HB.out⟩
 have h4':(k==1)=ag:=by simpa using h4
 rw[h4']at HE
 by_cases h5:k=2
 ·subst h5
  by_cases h6:0<=t
  ·by_cases h7:t<120
   all_goals
    go_enter DD,DF;go_wp2_with (first
     |(go_at_call 54;refine(K1.out _).mono ?_;rintro e w2 ⟨rfl,rfl⟩)
     |(go_at_call 55;refine(K2.out _).mono ?_;rintro e w3 ⟨rfl,rfl⟩))
    go_ret;exact⟨by rw[HE.out];simp[h6,h7]<;>omega,HB.out⟩
  ·go_enter DD,DF;go_wp2_with (first
    |(go_at_call 54;refine(K1.out _).mono ?_;rintro e w2 ⟨rfl,rfl⟩)
    |(go_at_call 55;refine(K2.out _).mono ?_;rintro e w3 ⟨rfl,rfl⟩))
   go_ret;exact⟨by rw[HE.out];simp[h6]<;>omega,HB.out⟩
 have h5':(k==2)=ag:=by simpa using h5
 rw[h5']at HE;clear h4 h5;go_enter DD,DF;go_wp2_with (first
  |(go_at_call 54;refine(K1.out _).mono ?_;rintro e w2 ⟨rfl,rfl⟩)
  |(go_at_call 55;refine(K2.out _).mono ?_;rintro e w3 ⟨rfl,rfl⟩))
 go_ret;exact⟨by rw[HE.out];simp,HB.out⟩
theorem anv {g:ByteArray} {L:List aW} {k:Nat} (hk:k<L.length) (h:Rt.one g L k=ag):Rt.valid g L=ag:=by
 unfold Rt.valid;rw[kD hk h]
 rfl
theorem ant {L:List aW} {k i:Nat} (hk:k<L.length) (hi:i<k) (h:Rt.sameKey (L[i]'O) L[k]=ae):Rt.before L k=ae:=by
 unfold Rt.before;rw[getD_lt L k default hk,vG];have h2:i<(L.take k).length:=by rw[jR];omega
 refine⟨(L.take k)[i],bP h2,?_⟩;rw[yD];exact h
theorem anu {L:List aW} {k:Nat} (hk:k<L.length) (h: ∀ i (hi:i<k),Rt.sameKey (L[i]'O) L[k]=ag):Rt.before L k=ag:=by
 unfold Rt.before;rw[getD_lt L k default hk,uy];intro x hx;obtain⟨i,hi,rfl⟩:=zG hx;rw[yD];rw[jR]at hi
 simpa using h i O
theorem amj (g:ByteArray) (L:List aW) (A:Option aG) (cp:Nat) (w:Z) (hr:Rd w w.heap.size 4 A L.length (cellsOf aW.cells L)) (hw: ∀ r∈L,r.cK.size<=bK) (hg:g.size<=bK) (hn:L.length<=300):
 aF ak 20 #[av g,T A L.length cp] w (fD (Rt.valid g L) w):=by
 have HR:=I hr;have HW:=I hw;have KC:=I (λW=>abm g W hg);have HV:Hid (Rt.valid g L=(iZ L.length (Rt.one g L)&&(Gr.ed g&&decide (L.length<=1000)))):=I rfl;have eH:=I (λk=> @anv g L k);have hb:=aD w.heap.size w;clear hr hw hg;generalize Rt.valid g L=V at*;go_enter Tryz.func20,Tryz.ntmps20;go_wp2_with fail;go_loopw [5] (λt wr=> ∃ k:Nat,k<=L.length/\(∀ j,j<k->Rt.one g L j=ae)/\t= G F k/\Below w.heap.size w wr) (λt _=>L.length - (intOf t).toNat)
 case atStart=>exact⟨0,O,λj h=>O,rfl,hb⟩
 case round=>
  clear hb;obtain⟨k,hk,hno,rfl,hb⟩:=hrel;have HN:=I hno;clear hno
  by_cases hlt:k<L.length
  ·obtain⟨b,o,hA,aX,f0,f1,f2,f3⟩:=aW.at_ HR.out hlt;have HF:=I (λW (h:Below w.heap.size w W)=>cz ((h.cell (p:=⟨b,o+k*4,J⟩) aX).trans f0) (cz ((h.cell (p:=⟨b,o+k*4+1,J⟩) aX).trans f1) (cz ((h.cell (p:=⟨b,o+k*4+2,J⟩) aX).trans f2) ((h.cell (p:=⟨b,o+k*4+3,J⟩) aX).trans f3))));clear f0 f1 f2 f3;obtain⟨f0,f1,f2,f3⟩:=HF.out wr hb;have xG:Hid (Rt.one g L k=(Rt.proper g L[k]&& !Rt.before L k)):=I (by unfold Rt.one;rw[getD_lt L k default hlt]);have Qz:=I (λi hi=> @ant L k i hlt hi);have Qx:=I (@anu L k hlt);have KP:=I (λW=>amh g L[k] W (HW.out _ (bP hlt)));have KS:=I (λ(a:aW) W=>ami a L[k] W);generalize L[k]=x at*;unfold aW.val at KP KS;obtain⟨xc,xk,xt,xv⟩:=x;dsimp only at*;subst hA
   cases hp:Rt.proper g ⟨xc,xk,xt,xv⟩
   ·have HE:Hid (V=ag):=I (eH.out k hlt (by rw[xG.out,hp];rfl));have HP:=I hp;clear hp;go_wp2_with (go_at_call 52;refine(KP.out _).mono ?_;rintro e w2 ⟨rfl,hb2⟩;rw[HP.out];have hb3:=ay hb hb2);go_ret;exact⟨by rw[HE.out];rfl,hb3⟩
   ·have HP:=I hp;clear hp;go_wp2_with (go_at_call 52;refine(KP.out _).mono ?_;rintro e w2 ⟨rfl,hb2⟩;rw[HP.out];have hb3:=ay hb hb2);clear f0 f1 f2 f3 hb2;go_loopw [6] (λt wr=> ∃ i:Nat,i<=k/\(∀ j (hj:j<i) (h2:j<L.length),Rt.sameKey (L[j]'h2) ⟨xc,xk,xt,xv⟩=ag)/\t= .int .i64 i/\Below w.heap.size w wr) (λt _=>k - (intOf t).toNat)
    case atStart=>exact⟨0,O,λj h=>O,rfl,hb3⟩
    case round=>
     clear hb hb3;obtain⟨i,hi,xZ,rfl,hb⟩:=hrel;have jm:=I xZ;clear xZ
     by_cases hik:i<k
     ·have hil:i<L.length:=O;have aii:(i:Int)<(L.length:Int):=O;obtain⟨f0,f1,f2,f3⟩:=HF.out wr hb;obtain⟨b2,o2,hA2,qR,g0,g1,g2,g3⟩:=aW.at_ (Rd.now HR.out hb) hil;obtain⟨rfl,rfl⟩:b=b2/\o=o2:=by simpa using hA2
      have q0:=λd:Later wr=>d.cell (ji aX hb.size) f0
      have q1:=λd:Later wr=>d.cell (ji aX hb.size) f1
      have q2:=λd:Later wr=>d.cell (ji aX hb.size) f2
      have q3:=λd:Later wr=>d.cell (ji aX hb.size) f3
      have r0:=λd:Later wr=>d.cell (ji aX hb.size) g0
      have r1:=λd:Later wr=>d.cell (ji aX hb.size) g1
      have r2:=λd:Later wr=>d.cell (ji aX hb.size) g2
      have r3:=λd:Later wr=>d.cell (ji aX hb.size) g3
      clear f0 f1 f2 f3 g0 g1 g2 g3;have Qw:=I (Qz.out i hik);have jl:=I (λW=>KS.out L[i] W);have HST:Hid (Rt.sameKey L[i] ⟨xc,xk,xt,xv⟩=ag-> ∀ j (hj:j<i+1) (h2:j<L.length),Rt.sameKey (L[j]'h2) ⟨xc,xk,xt,xv⟩=ag):=I (λhq j hj h2=>by
       by_cases e:j=i
       ·subst e;exact hq
       ·exact jm.out j O h2)
      generalize L[i]=y at*;obtain⟨yc,yk,yt,yv⟩:=y;dsimp only at*
      cases hs:Rt.sameKey ⟨yc,yk,yt,yv⟩ ⟨xc,xk,xt,xv⟩
      ·have HS:=I hs;rw[hs]at jl;clear hs;go_wp2_with fail;refine eX ai ai ?_;(repeat (go_big_quiet_step (((go_at_call 53;exact Later.call _ (jl.out _))))));refine wpQuiet_nil ?_;rintro _ ⟨dq,rfl⟩;have hbe:=ay hb dq.below;go_wp2_with fail;go_roundw
       case rel=>exact⟨i+1,O,HST.out HS.out,by go_num,hbe⟩
       case measure=>simp[intOf];omega
      ·have HE:Hid (V=ag):=I (eH.out k hlt (by rw[xG.out,Qw.out hs];simp));rw[hs]at jl;clear hs;go_wp2_with fail;refine eX ai ai ?_;(repeat (go_big_quiet_step (((go_at_call 53;exact Later.call _ (jl.out _))))));refine wpQuiet_nil ?_;rintro _ ⟨dq,rfl⟩;have hbe:=ay hb dq.below;go_wp2_with fail;go_ret;exact⟨by rw[HE.out];rfl,hbe⟩
     ·have HO:Hid (Rt.one g L k=ae):=I (by rw[xG.out,HP.out,Qx.out (λj hj=>jm.out j O O)];rfl);go_wp2_with fail;go_roundw
      case rel=>
       refine⟨k+1,O,λj hj=> ?_,by go_num,hb⟩
       by_cases e:j=k
       ·subst e;exact HO.out
       ·exact HN.out j O
      case measure=>simp[intOf];omega
  ·have hln:(L.length:Int)<=1000:=O;have HE:Hid (V=Gr.ed g):=I (by rw[HV.out,nT (λj hj=>HN.out j O),kK (show L.length<=1000 by omega)];simp);generalize Gr.ed g=c at*
   cases c
   all_goals
    go_wp2_with (go_at_call 54;refine(KC.out _).mono ?_;rintro e w2 ⟨rfl,rfl⟩);go_ret;exact⟨by rw[HE.out];simp<;>omega,hb⟩
end Go.Proofs.YtbedbfdhfokifaaGreat
