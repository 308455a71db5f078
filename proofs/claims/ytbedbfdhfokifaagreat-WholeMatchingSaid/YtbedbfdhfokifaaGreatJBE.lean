/- Part of the proof of WholeMatching. -/
import Derived.Test.YtbedbfdhfokifaaGreatJBC
namespace Go.Proofs.YtbedbfdhfokifaaGreat
set_option maxRecDepth 100000
set_option maxHeartbeats 16000000
set_option linter.unusedVariables false
set_option linter.unusedSimpArgs false
open _root_.Bool renaming true->ae,false->ag
open Go renaming World->Z,Calls->aF,Value->aj,maxLen->bK,Oper->dC,Program->dH,Ending->eG,Operand->lU
open Go.Ending renaming returned->bM
open Go.IntKind renaming i64->F
open Go.Obj renaming cells->U
open Go.Proofs.Tryz renaming prog->ak
open Go.Value renaming int->G,slice->T,bool->aA,pointer->aN,string->av,agg->az,tuple->bG
open _root_.Option renaming none->J,some->N
open Go.RowKit
theorem AR {a b:Int} (ha:Wf a) (hb:Wf b): ∃ l,keyOf ak 254 (jf a b)=N l:=by
 have h1:(ak).keyType 254=ae:=ai;have h2:(ak).cellsOf 254=2:=ai;have h3:(ak).cellsOf 3=1:=ai;unfold keyOf jf;rw[Tryz.underlying254];simp only[h1,Value.formed,Tryz.underlying254,h2,qC];unfold Program.keyLits;rw[Tryz.underlying254];simp[h2,h3,Value.cells,OQ _ _ ha,OQ _ _ hb]
theorem pJ {n:Int} (h: -1000000000<=n/\n<=1000000000):Wf n:=by
 have h1:F.min= -9223372036854775808:=aJ;have h2:F.max=9223372036854775807:=aJ;simp[Wf,Lit.wf,h1,h2];omega
theorem UB {a b c d:Int} (h:jf a b=jf c d):a=c/\b=d:=by
 unfold jf at h;simpa using h
theorem ig.Pb {P:dH} {k e t:TypeId} {z:aj} {w:Z} {b n:Nat} {f:aj->Option aj} (g:aj->Option aj) (hk:Go.Maps.Keyed P k) (ht:P.underlying t=N (.map k e)) (h:ig P k z w b n f) (hn:n<bK) (y u:aj) (l:Lit) (hl:keyOf P k y=N l)
 (hg:g y=N u) (hgo: ∀ q lu,keyOf P k q=N lu->q≠y->g q=f q): ∃ w',(Instr.mapUpdate t (.map (N b)) y u).run P w= .ok () w'/\ig P k z w' b (n+1) g/\w.grownBy w' (N b):=by
 obtain⟨D,h,hM,hD⟩:=h;obtain⟨w2,r1,r2,r3⟩:=h.update hk ht hn hl (show Kv u=N (.held u,[]) from rfl);exact⟨w2,r1,ig.put hk hM hD hl hg hgo r2,r3⟩
def bN.key (D:bN) (la b d:Int):Int:=if b=1 then la else if b=2 then ax.mD D.y D.m D.p d else d
def bN.lk (D:bN) (c:ByteArray) (la b d:Int):Option Int:=if c=D.cur then N 1000000 else D.at_ c b (D.key la b d)
def jC (w w':Z):Prop:= ∀ B t cs,au w B t cs->au w' B t cs
theorem jC.step {w W W':Z} (h:jC w W) (hb:Below W.heap.size W W'):jC w W':=λB t cs hB=>(h B t cs hB).step hb
theorem jC.set {w W:Z} {kb:Nat} (h:jC w W) (hlt: ∀ B t cs,au w B t cs->B<kb) {k:Nat} (hk:kb<=k) (i:Nat) (v:aj):jC w (W.setCell ⟨k,i,J⟩ v):=λB t cs hB=>(h B t cs hB).far (p:=⟨k,i,J⟩) (by have:=hlt B t cs hB;show B≠k;omega) v
theorem jC.put {P:dH} {k:TypeId} {z:aj} {w W W':Z} {mb n:Nat} {f:aj->Option aj} (h:jC w W) (hm:ig P k z W mb n f) (hg:W.grownBy W' (N mb)):jC w W':=λB t cs hB=>(h B t cs hB).grown hg (λe=>by injection e with e;exact hm.lI (h B t cs hB) e.symm)
def XG (D:bN) (w:Z) (w0:Z) (g mb n:Nat) (en q la:Int) (c:ByteArray) (r:Option Int) (e:eG) (w':Z):Prop:=
 e= .returned (bG #[G F (r.getD 0),G F (if r.isSome then 0 else 13)])/\ ∃ n' f,n'<=n+1/\fZ D w0 w' g mb n' f en q la c/\jC w w'
theorem fZ.keep {D:bN} {w0 w w':Z} {g mb n:Nat} {f:aj->Option aj} {en q la:Int} {c:ByteArray} (h:fZ D w0 w g mb n f en q la c) (hb:Below w0.heap.size w w') (h1:w'.heap[g]? =w.heap[g]?) (h2:w'.heap[mb]? =w.heap[mb]?):fZ D w0 w' g mb n f en q la c:=
 ⟨h.hB,h.hM,h.below.trans hb,h1.trans h.blk,h.map.same h2,h.inv⟩
theorem fZ.set {D:bN} {w0 w:Z} {g mb n k:Nat} {f:aj->Option aj} {en q la:Int} {c:ByteArray} {t:TypeId} {cs:Array aj} (h:fZ D w0 w g mb n f en q la c) (hk:au w k t cs) (hkg:k≠g) (hw:w0.heap.size<=k) (i:Nat) (v:aj):fZ D w0 (w.setCell ⟨k,i,J⟩ v) g mb n f en q la c:=
 h.keep ((aD _ w).setCell (p:=⟨k,i,J⟩) hw v) (uZ _ _ _ _ (pK hkg)) (uZ _ _ _ _ (h.map.lI hk))
theorem aba {Y M P d:Int} (h:ax.ok Y M P=ae):ax.bJ Y M P (ax.mD Y M P d)=0:=by
 have h2:=(ax.Fb Y M P).1 h;unfold ax.mq at h2;unfold ax.bJ ax.mD;rw[h];simp only[sV,qC]
 split
 ·rename_i h3;unfold ax.qX at h3;simp only[bR,dm]at h3;rw[bB h3.2]
 ·rw[bB O]
theorem Fh {P:dH} {S:Z->Prop} {o:dC} {a:Act} {fs:Array Field} {K:Act->Prop} (ty:TypeId) (x:lU) (ho:o.op= .load ty x) (b off:Nat) (hx:a.eval x= aN (N ⟨b,off,J⟩)) (arr:Array aj) (hc: ∀ d:aK S,d.now.rangeAt b off arr.toList)
 (hu:P.underlying ty=N (.struct fs)) (n:Nat) (hi:(P.info? ty).map (·.size)=N n) (hn:arr.size=n) (hK:K (a.put o.dst (az arr))):o.quiet P a (λw'=> ∃ d:aK S,w'=d.now) K:=by
 refine⟨az arr,λw' hw'=> ?_,hK⟩;obtain⟨dd,rfl⟩:=hw';have h1:(execOp a.eval o).run P dd.now= .ok (.value (az arr)) dd.now:=by
  unfold execOp;simp only[ho,hx,Instr.loadAt,Instr.sureAddr,yA,Mf,Mg,run_loadVar_mid dd.now b off ty arr.toList _ (hc dd) hu rfl (by rw[hi,oq,hn])]
 unfold Oper.quietAt;rw[h1];exact⟨rfl,rfl⟩
theorem JO {D:bN} (hD:D.Is) {w:Z} {g:Nat} {t:TypeId} {L:List aj} (h:au w g t (jD D.aH L)):w.rangeAt g 0 D.aB.toList:=λj v hv=>by
 have hj:j<21:=by
  have:=(vg.1 hv).1
  rwa [oq,hD.uO]at this
 rw[nN,h.cell j,BX hD.size O,hD.ik j hj,<- q9];exact hv
open Classical in
noncomputable def zo (f:aj->Option aj) (k x:aj):aj->Option aj:=λv=>if v=k then N x else f v
theorem Hg (f:aj->Option aj) (k x:aj):zo f k x k=N x:=by simp[zo]
theorem Hf (f:aj->Option aj) {k v:aj} (x:aj) (h:v≠k):zo f k x v=f v:=by simp[zo,h]
structure wh (D:bN) (w0:Z) (g mb n:Nat) (f:aj->Option aj) (en q la:Int) (c:ByteArray) (kb fb:Nat) (b k:Int) (w:Z):Prop where
 fJ:fZ D w0 w g mb n f en q la c
 key:au w kb 254 #[G F b,G F k]
 Oh: ∃ x y:Int,au w fb 256 #[G F x,G F y]
theorem wh.step {D:bN} {w0 w w':Z} {g mb n:Nat} {f:aj->Option aj} {en q la:Int} {c:ByteArray} {kb fb:Nat} {b k:Int} (h:wh D w0 g mb n f en q la c kb fb b k w) (hb:Below w.heap.size w w'):wh D w0 g mb n f en q la c kb fb b k w':=
 ⟨h.fJ.step hb,h.key.step hb,h.Oh.elim λx ⟨y,h⟩=>⟨x,y,h.step hb⟩⟩
theorem wh.put {D:bN} {w0 w:Z} {g mb n:Nat} {f:aj->Option aj} {en q la:Int} {c:ByteArray} {kb fb:Nat} {b k:Int} (h:wh D w0 g mb n f en q la c kb fb b k w) (h1:w0.heap.size<=fb) (h2:fb≠g) (h3:kb≠fb) (i:Nat) (v:Int):wh D w0 g mb n f en q la c kb fb b k (w.setCell ⟨fb,i,J⟩ (G F v)):=by
 obtain⟨x,y,hf⟩:=h.Oh;refine⟨h.fJ.set hf h2 h1 i _,h.key.far (p:=⟨fb,i,J⟩) h3 _,?_⟩
 rcases i with _|_|i
 ·exact⟨v,y,hf.bZ 0 _⟩
 ·exact⟨x,v,hf.bZ 1 _⟩
 ·exact⟨x,y,by have:=hf.bZ (i+2) (G F v);rwa [Array.setIfInBounds_eq_of_size_le aL]at this⟩
theorem alN {Y M P d:Int} (h:ax.ok Y M P=ae):0<=ax.mD Y M P d/\ax.mD Y M P d<=1000:=by
 have h1:=(ax.Aj Y M P _).1 (aba (d:=d) h);have h2:=(ax.Fb Y M P).1 h;unfold ax.mq at h2;omega
section
variable (w:Z)
theorem aj7 (D:bN) (hD:D.Is) (w0:Z) (hI:D.In w0) (g mb n:Nat) (f:aj->Option aj) (en q la:Int) (c:ByteArray) (H:fZ D w0 w g mb n f en q la c) (b d:Int) (hn:n<100000) (hc:Gr.ed c=ae) (CK:ax.ok D.y D.m D.p=ae) (hla:Gr.eZ la=ae) (hd:Gr.eZ d=ae) (hb: -1000<=b/\b<=1000):
 aF ak 115 #[aN (N ⟨g,0,J⟩),G F b,G F d] w (XG D w w0 g mb n en q la c (D.lk c la b d)):=by
 have c32:w.cell? ⟨g,32,J⟩=N (aA (!decide (c=D.cur))):=(H.blk.cell 32).trans (jr hD.size 5);have HH:=I H;have hlb: -25567<=la/\la<=84005:=by simpa [Gr.eZ] using hla
 have CL: -25567<=d/\d<=84005:=by simpa [Gr.eZ] using hd
 by_cases hcc:c=D.cur
 ·have HL:Hid (D.lk c la b d=N 1000000):=I (by unfold bN.lk;rw[bB hcc]);rw[kK hcc]at c32;clear H hcc;go_enter Tryz.func115,Tryz.ntmps115;go_wp2_with fail;go_ret2;exact⟨by rw[HL.out];rfl,n,f,O,HH.out,λ_ _ _ h=>h⟩
 have HL:Hid (D.lk c la b d=D.at_ c b (D.key la b d)):=I (by unfold bN.lk;rw[bE hcc]);generalize D.lk c la b d=R at*;rw[iw hcc]at c32;have DR:=I hcc;have hbz:w0.heap.size<=w.heap.size:=H.below.size;have Gt:(w.alloc (U #[G F b,G F d] 254)).cell? ⟨g,29,J⟩=N (G F la):=((H.blk.alloc _).cell 29).trans (jr hD.size 2);have c1:(w.alloc (U #[G F b,G F d] 254)).cell? ⟨g,1,J⟩=N (G F D.y):=((H.blk.alloc _).cell 1).trans (hD.b O);have c2:(w.alloc (U #[G F b,G F d] 254)).cell? ⟨g,2,J⟩=N (G F D.m):=((H.blk.alloc _).cell 2).trans (hD.b O);have c3:(w.alloc (U #[G F b,G F d] 254)).cell? ⟨g,3,J⟩=N (G F D.p):=((H.blk.alloc _).cell 3).trans (hD.b O);have H1:=I (H.step ((aD w.heap.size w).alloc (aC _) (U #[G F b,G F d] 254)));have HK:=I (au.new w 254 #[G F b,G F d]);have hgw:=H.blk.lt;have BF:Hid (∀ B t cs,au w B t cs->B<w.heap.size):=I (λ_ _ _ h=>h.lt);have nO:Hid (jC w (w.alloc (U #[G F b,G F d] 254))):=I (λ_ _ _ h=>h.alloc _);clear H hcc HH;go_enter Tryz.func115,Tryz.ntmps115;go_upto_region 4 with fail
 generalize w.alloc (U #[G F b,G F d] 254)=w1 at*;generalize w.heap.size=kb at*;have hkb:=HK.out.lt;have fk:w1.frozen? ⟨kb,1,J⟩=ag:=HK.out.frozen 1;have ck:w1.cell? ⟨kb,1,J⟩=N (G F d):=HK.out.cell 1
 by_cases hb1:b=1
 ·subst hb1;have jl:=I (HK.out.bZ 1 (G F la));have H2:=I (H1.out.set HK.out O hbz 1 (G F la));have HP:=I (nO.out.set BF.out (aC kb) 1 (G F la));have vP:Hid (D.key la 1 d=la):=I rfl;go_upto_region 9 with fail
  generalize w1.setCell ⟨kb,1,J⟩ (G F la)=W at*;clear H1 HK fk ck c1 c2 c3 Gt hkb c32;rw[vP.out]at HL;have QA:=I hla;have ZQ:=jl.out.lt;have BZ:W.drew.cell? ⟨g,30,J⟩=N (.map (N mb)):=(H2.out.blk.cell 30).trans (jr hD.size 3);have Ca:(W.alloc (U #[G F 0,G F 0] 256)).drew.cell? ⟨g,30,J⟩=N (.map (N mb)):=((H2.out.blk.alloc _).cell 30).trans (jr hD.size 3);have k0:W.drew.cell? ⟨kb,0,J⟩=N (G F (1)):=jl.out.cell 0;have k1:W.drew.cell? ⟨kb,1,J⟩=N (G F (la)):=jl.out.cell 1;have uj:(W.alloc (U #[G F 0,G F 0] 256)).drew.cell? ⟨kb,0,J⟩=N (G F (1)):=(jl.out.alloc _).cell 0;have k1':(W.alloc (U #[G F 0,G F 0] 256)).drew.cell? ⟨kb,1,J⟩=N (G F (la)):=(jl.out.alloc _).cell 1
  cases hf:f (jf (1) (la)) with
  |none=>
   obtain⟨l,hl⟩:=AR (a:=(1)) (b:=(la)) (pJ O) (pJ O);have u1:=(H2.out.map.same (w':=W.drew) rfl).look (t:=108) sM sW (wX _) hl;have u2:=((H2.out.map.alloc (U #[G F 0,G F 0] 256)).same (w':=(W.alloc (U #[G F 0,G F 0] 256)).drew) rfl).look (t:=108) sM sW (wX _) hl;rw[hf]at u1 u2;simp only[Dz,wV,wD,jf,rz,rD,sV]at u1 u2;go_cut [9,10] (λs9 s10 wx=> ∃ fb:Nat,s9= aN (N ⟨fb,0,J⟩)/\s10= .bool ag/\w0.heap.size<=fb/\fb≠g/\kb≠fb/\kb<=fb/\jC w wx/\fZ D w0 wx g mb n f en q la c/\au wx kb 254 #[G F (1),G F (la)]/\au wx fb 256 #[G F 0,G F 0])
   case first=>
    have lF:=I (au.new W 256 #[G F 0,G F 0]);have oD:=I (jl.out.alloc (U #[G F 0,G F 0] 256));have H3:=I (H2.out.step ((aD W.heap.size W).alloc (aC _) (U #[G F 0,G F 0] 256)));have hW3:=H2.out.below.size;have hgW:=H2.out.blk.lt;go_region
    all_goals go_wp2_with fail
    all_goals go_meet
    all_goals exact⟨_,rfl,rfl,hW3,O,O,O,(HP.out.step ((aD W.heap.size W).alloc (aC _) _)).step ((aD _ _).drew),H3.out.keep ((aD _ _).drew) rfl rfl,oD.out.drew,lF.out.drew⟩
   case rest=>
    obtain⟨fb,rfl,rfl,CO,CP,CR,CS,hp3,h3,hk3,hf3⟩:=hcut;have aP:=I hp3;have H3:=I h3;have oD:=I hk3;have lF:=I hf3;clear BZ Ca k0 k1 uj k1' u1 u2 h3 hk3 hf3 hp3;generalize wc=W3 at*;obtain⟨b0,hb0⟩: ∃ b0:Int,Hid (b0=1):=⟨_,I rfl⟩;rw[<- hb0.out]at oD;go_upto_region 13 with fail
    have pV:=ab2 W3.drew D.aB D.cur hD.uO (by rw[hD.HG];rfl) D.rl D.rA D.rc c (la) ((hI.Fs.below H3.out.below (aC _)).more H3.out.below.size).drew hD.Hr hD.rv hc QA.out DR.out;obtain⟨ov,hov⟩: ∃ o,Hid (D.at_ c b0 (la)=o):=⟨_,I rfl⟩;obtain⟨xv,hxv⟩: ∃ x:Int,Hid (x=ov.getD 0):=⟨_,I rfl⟩;obtain⟨er,her⟩: ∃ x:Int,Hid (x=if ov.isSome then 0 else 13):=⟨_,I rfl⟩;rw[show Rt.spot D.rl c (la)=ov from (by rw[<- hov.out];unfold bN.at_;rw[bE (by have:=hb0.out;omega)])]at pV;unfold Jz at pV;rw[<- hxv.out,<- her.out]at pV;have KS:=I pV;clear pV;obtain⟨S,hS⟩: ∃ S:Z->Prop,S=wh D w0 g mb n f en q la c kb fb b0 (la):=⟨_,rfl⟩;have aR:Hid (∀ w':Z,wh D w0 g mb n f en q la c kb fb b0 (la) w'↔S w'):=I (λw'=>by rw[hS]);clear hS;have hC: ∃ z:aK S,W3.drew=z.now:=aK.of ((aR.out _).1 ⟨H3.out.keep ((aD _ W3).drew) rfl rfl,oD.out,⟨0,0,lF.out⟩⟩);haveI:Nonempty (aK S):=by obtain⟨d,_⟩:=hC;exact⟨d⟩
    have Lt: ∀ z:aK S,z.now.cell? ⟨g,22,J⟩=N (T D.rA D.rl.length D.rc):=λz=>(((aR.out _).2 z.is).fJ.blk.cell 22).trans ((BX hD.size O).trans hD.rat)
    have p31: ∀ z:aK S,z.now.cell? ⟨g,31,J⟩=N (av c):=λz=>(((aR.out _).2 z.is).fJ.blk.cell 31).trans (jr hD.size 4)
    have pk: ∀ z:aK S,z.now.cell? ⟨kb,1,J⟩=N (G F (la)):=λz=>((aR.out _).2 z.is).key.cell 1
    refine nK (n:=24) S 23 ai rfl ?_;have hT:=tg 0;(iterate 4 refine aab hT hC ?_;clear hT;intro hT K hK;go_big_quiet_op;go_big_quiet_on);clear hT;refine Fq 4 hC ?_;intro K hK;refine Fh 29 _ rfl g 0 rfl D.aB (λz=>JO hD ((aR.out _).2 z.is).fJ.blk) bQ 21 gy hD.uO (hK _ ?_);clear hK K
    (try simp only[Zx])
    have hT:=tg 5;(iterate 11 refine aab hT hC ?_;clear hT;intro hT K hK;go_big_quiet_op;go_big_quiet_on);clear hT;have pO:=I lF.out.drew;have kU:=I (aP.out.step ((aD _ W3).drew));generalize W3.drew=W4 at*;clear Lt p31 pk;refine dw (i:=16) ai rfl rfl ?_;intro K hK;go_simp;go_at_call 161;refine KS.out.mono ?_;rintro e w5 ⟨rfl,hb5⟩
    (try go_wp2_with fail)
    have hL5:=((aR.out _).2 (aK.un hC)).step hb5;replace hC: ∃ z:aK S,w5=z.now:=aK.of ((aR.out _).1 hL5);refine hK _ _ (.inr (.inr hC)) ?_;clear hK K KS
    (try simp only[Zx])
    have qG:=I (pO.out.step hb5);have xH:=I ((((kU.out.step hb5).set BF.out CS 0 (G F xv))).set BF.out CS 1 (G F er));have H5:=I hL5.fJ;have DY:=I hL5.key;have qH:=I hL5;clear hL5;have hT:=tg 17;(iterate 4 refine aab hT hC ?_;clear hT;intro hT K hK;go_big_quiet_op;go_big_quiet_on);clear hT;have q0:w5.cell? ⟨fb,0,J⟩=N (G F 0):=qG.out.cell 0;have s0:w5.frozen? ⟨fb,0,J⟩=ag:=qG.out.frozen 0;refine dw (i:=21) ai rfl rfl ?_;intro K hK;go_simp;have tJ:=I (qH.out.put CO CP CR 0 xv);replace hC: ∃ z:aK S,w5.setCell ⟨fb,0,J⟩ (G F xv)=z.now:=aK.of ((aR.out _).1 tJ.out);refine hK _ _ (.inr (.inr hC)) ?_;clear hK K q0 s0
    (try simp only[Zx])
    have tu:=I (qG.out.bZ 0 (G F xv));generalize w5.setCell ⟨fb,0,J⟩ (G F xv)=w6 at*;refine Fq 22 hC ?_;intro K hK;go_big_quiet_op;go_big_quiet_on;have q0:w6.cell? ⟨fb,1,J⟩=N (G F 0):=tu.out.cell 1;have s0:w6.frozen? ⟨fb,1,J⟩=ag:=tu.out.frozen 1;refine dw (i:=23) ai rfl rfl ?_;intro K hK;go_simp;refine hK _ _ (.inr (.inl rfl)) ?_;clear hK K q0 s0
    (try simp only[Zx])
    refine kH ai ?_ _;have tC:=I (tu.out.bZ 1 (G F er));have fV:=I (tJ.out.put CO CP CR 1 er);generalize w6.setCell ⟨fb,1,J⟩ (G F er)=w7 at*;clear tJ qH tu qG H5 DY hC H3 oD;go_upto_region 14 with fail
    obtain⟨l2,hl2⟩:=AR (a:=b0) (b:=(la)) (pJ (by have:=hb0.out;omega)) (pJ O);have xI:Hid (R=ov):=I (by rw[HL.out,<- hov.out,hb0.out]);have yO:Hid (wD ov= az #[G F xv,G F er]):=I (by unfold wD;rw[hxv.out,her.out]);have xY:=fV.out.fJ.map.same (w':=w7.drew) rfl;obtain⟨wx,r5,m5,g5⟩:=xY.Pb (zo f (jf b0 (la)) (az #[G F xv,G F er])) (t:=108) sM sW fQ (jf b0 (la)) (az #[G F xv,G F er]) l2 hl2 (Hg _ _ _) (λq _ _ hq=>Hf f _ hq);have CB:fZ D w0 wx g mb (n+1) (zo f (jf b0 (la)) (az #[G F xv,G F er])) en q la c:=by
     refine⟨fV.out.fJ.hB,fV.out.fJ.hM,fV.out.fJ.below.drew.grown g5 fV.out.fJ.below.size (λk e=>by cases e;exact fV.out.fJ.hM),(fV.out.fJ.blk.drew).grown g5 (λe=>by injection e with e;exact fV.out.fJ.map.lI fV.out.fJ.blk e.symm),m5,λb2 d2 v hv=> ?_⟩
     by_cases hq:jf b2 d2=jf b0 (la)
     ·rw[hq,Hg]at hv;obtain⟨e1,e2⟩:=UB hq;obtain rfl:=(uz hv).symm;rw[e1,e2,hov.out,yO.out]
     ·rw[Hf f _ hq]at hv;exact fV.out.fJ.inv _ _ _ hv
    have vO:=I (tC.out.drew.grown g5 (λe=>by injection e with e;exact fV.out.fJ.map.lI tC.out e.symm));have fH:=I CB;have jN:=I ((xH.out.step ((aD _ w7).drew)).put xY g5);obtain⟨S2,hS2⟩: ∃ S:Z->Prop,S=λw'=>w'=w7.drew:=⟨_,rfl⟩
    have HS2:Hid (∀ w':Z,S2 w'->w'=w7.drew):=I (λw' h=>by rw[hS2]at h;exact h);have hC: ∃ z:aK S2,w7.drew=z.now:=aK.of (by rw[hS2]);haveI:Nonempty (aK S2):=by obtain⟨d,_⟩:=hC;exact⟨d⟩
    have p30: ∀ z:aK S2,z.now.cell? ⟨g,30,J⟩=N (.map (N mb)):=λz=>by rw[HS2.out _ z.is];exact(fV.out.fJ.blk.drew.cell 30).trans (jr hD.size 3)
    have Lx: ∀ z:aK S2,z.now.cell? ⟨kb,0,J⟩=N (G F b0):=λz=>by rw[HS2.out _ z.is];exact fV.out.key.drew.cell 0
    have AY: ∀ z:aK S2,z.now.cell? ⟨kb,1,J⟩=N (G F (la)):=λz=>by rw[HS2.out _ z.is];exact fV.out.key.drew.cell 1
    have Lu: ∀ z:aK S2,z.now.cell? ⟨fb,0,J⟩=N (G F xv):=λz=>by rw[HS2.out _ z.is];exact tC.out.drew.cell 0
    have Lv: ∀ z:aK S2,z.now.cell? ⟨fb,1,J⟩=N (G F er):=λz=>by rw[HS2.out _ z.is];exact tC.out.drew.cell 1
    clear hS2 m5 g5 xY CB;unfold jf at r5;refine nK (n:=7) S2 6 ai rfl ?_;have hT:=tg 0;(iterate 6 refine aab hT hC ?_;clear hT;intro hT K hK;go_big_quiet_op;go_big_quiet_on);clear hT;refine dw (i:=6) ai rfl rfl ?_;intro K hK;go_simp;refine hK _ _ (.inr (.inl rfl)) ?_;clear hK K p30 Lx AY Lu Lv r5 hC
    (try simp only[Zx])
    refine kH ai ?_ _;have x0:wx.cell? ⟨fb,0,J⟩=N (G F xv):=vO.out.cell 0;have x1:wx.cell? ⟨fb,1,J⟩=N (G F er):=vO.out.cell 1;go_upto_region 15 with fail
    go_quiet (fail);go_wp2_with fail;go_ret2;exact⟨by rw[xI.out,<- hxv.out,<- her.out];rfl,n+1,_,aC _,fH.out.step (iC (aD _ wx) nq),jN.out.step (iC (aD _ wx) nq)⟩
  |some v=>
   obtain⟨ov,hov⟩: ∃ o,Hid (D.at_ c (1) (la)=o):=⟨_,I rfl⟩;obtain⟨xv,hxv⟩: ∃ x:Int,Hid (x=ov.getD 0):=⟨_,I rfl⟩;obtain⟨er,her⟩: ∃ x:Int,Hid (x=if ov.isSome then 0 else 13):=⟨_,I rfl⟩;have hvv:v= az #[G F xv,G F er]:=by rw[H2.out.inv _ _ _ hf,hov.out,hxv.out,her.out];rfl
   have xI:Hid (R=ov):=I (by rw[HL.out,<- hov.out]);obtain⟨l,hl⟩:=AR (a:=(1)) (b:=(la)) (pJ O) (pJ O);have u1:=(H2.out.map.same (w':=W.drew) rfl).look (t:=108) sM sW (wX _) hl;have u2:=((H2.out.map.alloc (U #[G F 0,G F 0] 256)).same (w':=(W.alloc (U #[G F 0,G F 0] 256)).drew) rfl).look (t:=108) sM sW (wX _) hl;rw[hf,hvv]at u1 u2;simp only[rz,rD,jf]at u1 u2;clear hvv hf;go_cut [9,10] (λs9 s10 wx=> ∃ fb:Nat,s9= aN (N ⟨fb,0,J⟩)/\s10= .bool ae/\jC w wx/\fZ D w0 wx g mb n f en q la c/\au wx fb 256 #[G F xv,G F er])
   case first=>
    have lF:=I (au.new W 256 #[G F xv,G F er]);have H3:=I (H2.out.step ((aD W.heap.size W).alloc (aC _) (U #[G F xv,G F er] 256)));go_region
    all_goals go_wp2_with fail
    all_goals go_meet
    all_goals exact⟨_,rfl,rfl,(HP.out.step ((aD W.heap.size W).alloc (aC _) _)).step ((aD _ _).drew),H3.out.keep ((aD _ _).drew) rfl rfl,lF.out.drew⟩
   case rest=>
    obtain⟨fb,rfl,rfl,hp3,h3,hf3⟩:=hcut;have aP:=I hp3;have H3:=I h3;have x0:wc.cell? ⟨fb,0,J⟩=N (G F xv):=hf3.cell 0;have x1:wc.cell? ⟨fb,1,J⟩=N (G F er):=hf3.cell 1;clear BZ Ca k0 k1 uj k1' u1 u2 h3 hf3 hp3;go_upto_region 15 with fail
    go_quiet (fail);go_wp2_with fail;go_ret2;exact⟨by rw[xI.out,<- hxv.out,<- her.out];rfl,n,f,O,H3.out.step (iC (aD _ wc) nq),aP.out.step (iC (aD _ wc) nq)⟩
 have ahX:(b==1)=ag:=vH hb1
 by_cases hb2:b=2
 ·subst hb2;clear hb1 ahX;have vP:Hid (D.key la 2 d=ax.mD D.y D.m D.p d):=I rfl;have Xu:Hid (∀ X:Z,aF ak 159 #[az #[G F D.y,G F D.m,G F D.p],G F d] X λe w'=>e= .returned (bG #[G F (ax.mD D.y D.m D.p d),G F (ax.oP D.y D.m D.p d)])/\Below X.heap.size X w'):=I (λX=>Yb D.y D.m D.p d X);have hpb:0<=ax.mD D.y D.m D.p d/\ax.mD D.y D.m D.p d<=1000:=alN CK;rw[vP.out]at HL;generalize Z4:ax.mD D.y D.m D.p d=per at*;have adt:=I Z4;clear Z4;have hpe:ax.bJ D.y D.m D.p per=0:=by rw[<- adt.out];exact aba CK
  go_upto_region 9 with (go_at_call 159;refine(Xu.out _).mono ?_;rintro e w2 ⟨rfl,ah⟩;have I6:=I (HK.out.step ah);have VM:=I (H1.out.step ah);have fk2:w2.frozen? ⟨kb,1,J⟩=ag:=I6.out.frozen 1;have ck2:w2.cell? ⟨kb,1,J⟩=N (G F d):=I6.out.cell 1)
  have jl:=I (I6.out.bZ 1 (G F per));have H2:=I (VM.out.set I6.out O hbz 1 (G F per));have HP:=I ((nO.out.step ah).set BF.out (aC kb) 1 (G F per));generalize w2.setCell ⟨kb,1,J⟩ (G F per)=W at*;clear H1 HK fk ck c1 c2 c3 Gt hkb c32 Xu ah fk2 ck2 I6 VM;have ZQ:=jl.out.lt;have BZ:W.drew.cell? ⟨g,30,J⟩=N (.map (N mb)):=(H2.out.blk.cell 30).trans (jr hD.size 3);have Ca:(W.alloc (U #[G F 0,G F 0] 256)).drew.cell? ⟨g,30,J⟩=N (.map (N mb)):=((H2.out.blk.alloc _).cell 30).trans (jr hD.size 3);have k0:W.drew.cell? ⟨kb,0,J⟩=N (G F (2)):=jl.out.cell 0;have k1:W.drew.cell? ⟨kb,1,J⟩=N (G F (per)):=jl.out.cell 1;have uj:(W.alloc (U #[G F 0,G F 0] 256)).drew.cell? ⟨kb,0,J⟩=N (G F (2)):=(jl.out.alloc _).cell 0;have k1':(W.alloc (U #[G F 0,G F 0] 256)).drew.cell? ⟨kb,1,J⟩=N (G F (per)):=(jl.out.alloc _).cell 1
  cases hf:f (jf (2) (per)) with
  |none=>
   obtain⟨l,hl⟩:=AR (a:=(2)) (b:=(per)) (pJ O) (pJ O);have u1:=(H2.out.map.same (w':=W.drew) rfl).look (t:=108) sM sW (wX _) hl;have u2:=((H2.out.map.alloc (U #[G F 0,G F 0] 256)).same (w':=(W.alloc (U #[G F 0,G F 0] 256)).drew) rfl).look (t:=108) sM sW (wX _) hl;rw[hf]at u1 u2;simp only[Dz,wV,wD,jf,rz,rD,sV]at u1 u2;go_cut [9,10] (λs9 s10 wx=> ∃ fb:Nat,s9= aN (N ⟨fb,0,J⟩)/\s10= .bool ag/\w0.heap.size<=fb/\fb≠g/\kb≠fb/\kb<=fb/\jC w wx/\fZ D w0 wx g mb n f en q la c/\au wx kb 254 #[G F (2),G F (per)]/\au wx fb 256 #[G F 0,G F 0])
   case first=>
    have lF:=I (au.new W 256 #[G F 0,G F 0]);have oD:=I (jl.out.alloc (U #[G F 0,G F 0] 256));have H3:=I (H2.out.step ((aD W.heap.size W).alloc (aC _) (U #[G F 0,G F 0] 256)));have hW3:=H2.out.below.size;have hgW:=H2.out.blk.lt;go_region
    all_goals go_wp2_with fail
    all_goals go_meet
    all_goals exact⟨_,rfl,rfl,hW3,O,O,O,(HP.out.step ((aD W.heap.size W).alloc (aC _) _)).step ((aD _ _).drew),H3.out.keep ((aD _ _).drew) rfl rfl,oD.out.drew,lF.out.drew⟩
   case rest=>
    obtain⟨fb,rfl,rfl,CO,CP,CR,CS,hp3,h3,hk3,hf3⟩:=hcut;have aP:=I hp3;have H3:=I h3;have oD:=I hk3;have lF:=I hf3;clear BZ Ca k0 k1 uj k1' u1 u2 h3 hk3 hf3 hp3;generalize wc=W3 at*;obtain⟨b0,hb0⟩: ∃ b0:Int,Hid (b0=2):=⟨_,I rfl⟩;rw[<- hb0.out]at oD;go_upto_region 12 with fail
    have pV:=al6 W3.drew D.aB D.cur D.y D.m D.p (per) hD.uO (by rw[hD.HG];rfl) (by rw[hD.HG];rfl) (by rw[hD.HG];rfl) (by rw[hD.HG];rfl) D.rl D.rA D.rc c ((hI.Fs.below H3.out.below (aC _)).more H3.out.below.size).drew hD.Hr hD.rv hc CK hpe DR.out;obtain⟨ov,hov⟩: ∃ o,Hid (D.at_ c b0 (per)=o):=⟨_,I rfl⟩;obtain⟨xv,hxv⟩: ∃ x:Int,Hid (x=ov.getD 0):=⟨_,I rfl⟩;obtain⟨er,her⟩: ∃ x:Int,Hid (x=if ov.isSome then 0 else 13):=⟨_,I rfl⟩;rw[show Rt.BU D.rl c (per) (ax.gW D.y D.m D.p (per)) (ax.cB D.y D.m D.p (per))=ov from (by rw[<- hov.out];unfold bN.at_;rw[bB (by have:=hb0.out;omega)])]at pV;unfold Jz at pV;rw[<- hxv.out,<- her.out]at pV;have KS:=I pV;clear pV;obtain⟨S,hS⟩: ∃ S:Z->Prop,S=wh D w0 g mb n f en q la c kb fb b0 (per):=⟨_,rfl⟩;have aR:Hid (∀ w':Z,wh D w0 g mb n f en q la c kb fb b0 (per) w'↔S w'):=I (λw'=>by rw[hS]);clear hS;have hC: ∃ z:aK S,W3.drew=z.now:=aK.of ((aR.out _).1 ⟨H3.out.keep ((aD _ W3).drew) rfl rfl,oD.out,⟨0,0,lF.out⟩⟩);haveI:Nonempty (aK S):=by obtain⟨d,_⟩:=hC;exact⟨d⟩
    have Lt: ∀ z:aK S,z.now.cell? ⟨g,22,J⟩=N (T D.rA D.rl.length D.rc):=λz=>(((aR.out _).2 z.is).fJ.blk.cell 22).trans ((BX hD.size O).trans hD.rat)
    have p31: ∀ z:aK S,z.now.cell? ⟨g,31,J⟩=N (av c):=λz=>(((aR.out _).2 z.is).fJ.blk.cell 31).trans (jr hD.size 4)
    have pk: ∀ z:aK S,z.now.cell? ⟨kb,1,J⟩=N (G F (per)):=λz=>((aR.out _).2 z.is).key.cell 1
    refine nK (n:=24) S 23 ai rfl ?_;have hT:=tg 0;(iterate 4 refine aab hT hC ?_;clear hT;intro hT K hK;go_big_quiet_op;go_big_quiet_on);clear hT;refine Fq 4 hC ?_;intro K hK;refine Fh 29 _ rfl g 0 rfl D.aB (λz=>JO hD ((aR.out _).2 z.is).fJ.blk) bQ 21 gy hD.uO (hK _ ?_);clear hK K
    (try simp only[Zx])
    have hT:=tg 5;(iterate 11 refine aab hT hC ?_;clear hT;intro hT K hK;go_big_quiet_op;go_big_quiet_on);clear hT;have pO:=I lF.out.drew;have kU:=I (aP.out.step ((aD _ W3).drew));generalize W3.drew=W4 at*;clear Lt p31 pk;refine dw (i:=16) ai rfl rfl ?_;intro K hK;go_simp;go_at_call 160;refine KS.out.mono ?_;rintro e w5 ⟨rfl,hb5⟩
    (try go_wp2_with fail)
    have hL5:=((aR.out _).2 (aK.un hC)).step hb5;replace hC: ∃ z:aK S,w5=z.now:=aK.of ((aR.out _).1 hL5);refine hK _ _ (.inr (.inr hC)) ?_;clear hK K KS
    (try simp only[Zx])
    have qG:=I (pO.out.step hb5);have xH:=I ((((kU.out.step hb5).set BF.out CS 0 (G F xv))).set BF.out CS 1 (G F er));have H5:=I hL5.fJ;have DY:=I hL5.key;have qH:=I hL5;clear hL5;have hT:=tg 17;(iterate 4 refine aab hT hC ?_;clear hT;intro hT K hK;go_big_quiet_op;go_big_quiet_on);clear hT;have q0:w5.cell? ⟨fb,0,J⟩=N (G F 0):=qG.out.cell 0;have s0:w5.frozen? ⟨fb,0,J⟩=ag:=qG.out.frozen 0;refine dw (i:=21) ai rfl rfl ?_;intro K hK;go_simp;have tJ:=I (qH.out.put CO CP CR 0 xv);replace hC: ∃ z:aK S,w5.setCell ⟨fb,0,J⟩ (G F xv)=z.now:=aK.of ((aR.out _).1 tJ.out);refine hK _ _ (.inr (.inr hC)) ?_;clear hK K q0 s0
    (try simp only[Zx])
    have tu:=I (qG.out.bZ 0 (G F xv));generalize w5.setCell ⟨fb,0,J⟩ (G F xv)=w6 at*;refine Fq 22 hC ?_;intro K hK;go_big_quiet_op;go_big_quiet_on;have q0:w6.cell? ⟨fb,1,J⟩=N (G F 0):=tu.out.cell 1;have s0:w6.frozen? ⟨fb,1,J⟩=ag:=tu.out.frozen 1;refine dw (i:=23) ai rfl rfl ?_;intro K hK;go_simp;refine hK _ _ (.inr (.inl rfl)) ?_;clear hK K q0 s0
    (try simp only[Zx])
    refine kH ai ?_ _;have tC:=I (tu.out.bZ 1 (G F er));have fV:=I (tJ.out.put CO CP CR 1 er);generalize w6.setCell ⟨fb,1,J⟩ (G F er)=w7 at*;clear tJ qH tu qG H5 DY hC H3 oD;go_upto_region 14 with fail
    obtain⟨l2,hl2⟩:=AR (a:=b0) (b:=(per)) (pJ (by have:=hb0.out;omega)) (pJ O);have xI:Hid (R=ov):=I (by rw[HL.out,<- hov.out,hb0.out]);have yO:Hid (wD ov= az #[G F xv,G F er]):=I (by unfold wD;rw[hxv.out,her.out]);have xY:=fV.out.fJ.map.same (w':=w7.drew) rfl;obtain⟨wx,r5,m5,g5⟩:=xY.Pb (zo f (jf b0 (per)) (az #[G F xv,G F er])) (t:=108) sM sW fQ (jf b0 (per)) (az #[G F xv,G F er]) l2 hl2 (Hg _ _ _) (λq _ _ hq=>Hf f _ hq);have CB:fZ D w0 wx g mb (n+1) (zo f (jf b0 (per)) (az #[G F xv,G F er])) en q la c:=by
     refine⟨fV.out.fJ.hB,fV.out.fJ.hM,fV.out.fJ.below.drew.grown g5 fV.out.fJ.below.size (λk e=>by cases e;exact fV.out.fJ.hM),(fV.out.fJ.blk.drew).grown g5 (λe=>by injection e with e;exact fV.out.fJ.map.lI fV.out.fJ.blk e.symm),m5,λb2 d2 v hv=> ?_⟩
     by_cases hq:jf b2 d2=jf b0 (per)
     ·rw[hq,Hg]at hv;obtain⟨e1,e2⟩:=UB hq;obtain rfl:=(uz hv).symm;rw[e1,e2,hov.out,yO.out]
     ·rw[Hf f _ hq]at hv;exact fV.out.fJ.inv _ _ _ hv
    have vO:=I (tC.out.drew.grown g5 (λe=>by injection e with e;exact fV.out.fJ.map.lI tC.out e.symm));have fH:=I CB;have jN:=I ((xH.out.step ((aD _ w7).drew)).put xY g5);obtain⟨S2,hS2⟩: ∃ S:Z->Prop,S=λw'=>w'=w7.drew:=⟨_,rfl⟩
    have HS2:Hid (∀ w':Z,S2 w'->w'=w7.drew):=I (λw' h=>by rw[hS2]at h;exact h);have hC: ∃ z:aK S2,w7.drew=z.now:=aK.of (by rw[hS2]);haveI:Nonempty (aK S2):=by obtain⟨d,_⟩:=hC;exact⟨d⟩
    have p30: ∀ z:aK S2,z.now.cell? ⟨g,30,J⟩=N (.map (N mb)):=λz=>by rw[HS2.out _ z.is];exact(fV.out.fJ.blk.drew.cell 30).trans (jr hD.size 3)
    have Lx: ∀ z:aK S2,z.now.cell? ⟨kb,0,J⟩=N (G F b0):=λz=>by rw[HS2.out _ z.is];exact fV.out.key.drew.cell 0
    have AY: ∀ z:aK S2,z.now.cell? ⟨kb,1,J⟩=N (G F (per)):=λz=>by rw[HS2.out _ z.is];exact fV.out.key.drew.cell 1
    have Lu: ∀ z:aK S2,z.now.cell? ⟨fb,0,J⟩=N (G F xv):=λz=>by rw[HS2.out _ z.is];exact tC.out.drew.cell 0
    have Lv: ∀ z:aK S2,z.now.cell? ⟨fb,1,J⟩=N (G F er):=λz=>by rw[HS2.out _ z.is];exact tC.out.drew.cell 1
    clear hS2 m5 g5 xY CB;unfold jf at r5;refine nK (n:=7) S2 6 ai rfl ?_;have hT:=tg 0;(iterate 6 refine aab hT hC ?_;clear hT;intro hT K hK;go_big_quiet_op;go_big_quiet_on);clear hT;refine dw (i:=6) ai rfl rfl ?_;intro K hK;go_simp;refine hK _ _ (.inr (.inl rfl)) ?_;clear hK K p30 Lx AY Lu Lv r5 hC
    (try simp only[Zx])
    refine kH ai ?_ _;have x0:wx.cell? ⟨fb,0,J⟩=N (G F xv):=vO.out.cell 0;have x1:wx.cell? ⟨fb,1,J⟩=N (G F er):=vO.out.cell 1;go_upto_region 15 with fail
    go_quiet (fail);go_wp2_with fail;go_ret2;exact⟨by rw[xI.out,<- hxv.out,<- her.out];rfl,n+1,_,aC _,fH.out.step (iC (aD _ wx) nq),jN.out.step (iC (aD _ wx) nq)⟩
  |some v=>
   obtain⟨ov,hov⟩: ∃ o,Hid (D.at_ c (2) (per)=o):=⟨_,I rfl⟩;obtain⟨xv,hxv⟩: ∃ x:Int,Hid (x=ov.getD 0):=⟨_,I rfl⟩;obtain⟨er,her⟩: ∃ x:Int,Hid (x=if ov.isSome then 0 else 13):=⟨_,I rfl⟩;have hvv:v= az #[G F xv,G F er]:=by rw[H2.out.inv _ _ _ hf,hov.out,hxv.out,her.out];rfl
   have xI:Hid (R=ov):=I (by rw[HL.out,<- hov.out]);obtain⟨l,hl⟩:=AR (a:=(2)) (b:=(per)) (pJ O) (pJ O);have u1:=(H2.out.map.same (w':=W.drew) rfl).look (t:=108) sM sW (wX _) hl;have u2:=((H2.out.map.alloc (U #[G F 0,G F 0] 256)).same (w':=(W.alloc (U #[G F 0,G F 0] 256)).drew) rfl).look (t:=108) sM sW (wX _) hl;rw[hf,hvv]at u1 u2;simp only[rz,rD,jf]at u1 u2;clear hvv hf;go_cut [9,10] (λs9 s10 wx=> ∃ fb:Nat,s9= aN (N ⟨fb,0,J⟩)/\s10= .bool ae/\jC w wx/\fZ D w0 wx g mb n f en q la c/\au wx fb 256 #[G F xv,G F er])
   case first=>
    have lF:=I (au.new W 256 #[G F xv,G F er]);have H3:=I (H2.out.step ((aD W.heap.size W).alloc (aC _) (U #[G F xv,G F er] 256)));go_region
    all_goals go_wp2_with fail
    all_goals go_meet
    all_goals exact⟨_,rfl,rfl,(HP.out.step ((aD W.heap.size W).alloc (aC _) _)).step ((aD _ _).drew),H3.out.keep ((aD _ _).drew) rfl rfl,lF.out.drew⟩
   case rest=>
    obtain⟨fb,rfl,rfl,hp3,h3,hf3⟩:=hcut;have aP:=I hp3;have H3:=I h3;have x0:wc.cell? ⟨fb,0,J⟩=N (G F xv):=hf3.cell 0;have x1:wc.cell? ⟨fb,1,J⟩=N (G F er):=hf3.cell 1;clear BZ Ca k0 k1 uj k1' u1 u2 h3 hf3 hp3;go_upto_region 15 with fail
    go_quiet (fail);go_wp2_with fail;go_ret2;exact⟨by rw[xI.out,<- hxv.out,<- her.out];rfl,n,f,O,H3.out.step (iC (aD _ wc) nq),aP.out.step (iC (aD _ wc) nq)⟩
 ·have apF:(b==2)=ag:=vH hb2;have vP:Hid (D.key la b d=d):=I (by unfold bN.key;rw[bE hb1,bE hb2]);rw[vP.out]at HL;have H2:=H1;have jl:=HK;have HP:=nO;have QA:=I hd;go_upto_region 9 with fail
  clear H1 HK fk ck c1 c2 c3 Gt hkb c32;generalize w1=W at*;have ZQ:=jl.out.lt;have BZ:W.drew.cell? ⟨g,30,J⟩=N (.map (N mb)):=(H2.out.blk.cell 30).trans (jr hD.size 3);have Ca:(W.alloc (U #[G F 0,G F 0] 256)).drew.cell? ⟨g,30,J⟩=N (.map (N mb)):=((H2.out.blk.alloc _).cell 30).trans (jr hD.size 3);have k0:W.drew.cell? ⟨kb,0,J⟩=N (G F (b)):=jl.out.cell 0;have k1:W.drew.cell? ⟨kb,1,J⟩=N (G F (d)):=jl.out.cell 1;have uj:(W.alloc (U #[G F 0,G F 0] 256)).drew.cell? ⟨kb,0,J⟩=N (G F (b)):=(jl.out.alloc _).cell 0;have k1':(W.alloc (U #[G F 0,G F 0] 256)).drew.cell? ⟨kb,1,J⟩=N (G F (d)):=(jl.out.alloc _).cell 1
  cases hf:f (jf (b) (d)) with
  |none=>
   obtain⟨l,hl⟩:=AR (a:=(b)) (b:=(d)) (pJ O) (pJ O);have u1:=(H2.out.map.same (w':=W.drew) rfl).look (t:=108) sM sW (wX _) hl;have u2:=((H2.out.map.alloc (U #[G F 0,G F 0] 256)).same (w':=(W.alloc (U #[G F 0,G F 0] 256)).drew) rfl).look (t:=108) sM sW (wX _) hl;rw[hf]at u1 u2;simp only[Dz,wV,wD,jf,rz,rD,sV]at u1 u2;go_cut [9,10] (λs9 s10 wx=> ∃ fb:Nat,s9= aN (N ⟨fb,0,J⟩)/\s10= .bool ag/\w0.heap.size<=fb/\fb≠g/\kb≠fb/\kb<=fb/\jC w wx/\fZ D w0 wx g mb n f en q la c/\au wx kb 254 #[G F (b),G F (d)]/\au wx fb 256 #[G F 0,G F 0])
   case first=>
    have lF:=I (au.new W 256 #[G F 0,G F 0]);have oD:=I (jl.out.alloc (U #[G F 0,G F 0] 256));have H3:=I (H2.out.step ((aD W.heap.size W).alloc (aC _) (U #[G F 0,G F 0] 256)));have hW3:=H2.out.below.size;have hgW:=H2.out.blk.lt;go_region
    all_goals go_wp2_with fail
    all_goals go_meet
    all_goals exact⟨_,rfl,rfl,hW3,O,O,O,(HP.out.step ((aD W.heap.size W).alloc (aC _) _)).step ((aD _ _).drew),H3.out.keep ((aD _ _).drew) rfl rfl,oD.out.drew,lF.out.drew⟩
   case rest=>
    obtain⟨fb,rfl,rfl,CO,CP,CR,CS,hp3,h3,hk3,hf3⟩:=hcut;have aP:=I hp3;have H3:=I h3;have oD:=I hk3;have lF:=I hf3;clear BZ Ca k0 k1 uj k1' u1 u2 h3 hk3 hf3 hp3;generalize wc=W3 at*;obtain⟨b0,hb0⟩: ∃ b0:Int,Hid (b0=b):=⟨_,I rfl⟩;rw[<- hb0.out]at oD;go_upto_region 13 with fail
    have pV:=ab2 W3.drew D.aB D.cur hD.uO (by rw[hD.HG];rfl) D.rl D.rA D.rc c (d) ((hI.Fs.below H3.out.below (aC _)).more H3.out.below.size).drew hD.Hr hD.rv hc QA.out DR.out;obtain⟨ov,hov⟩: ∃ o,Hid (D.at_ c b0 (d)=o):=⟨_,I rfl⟩;obtain⟨xv,hxv⟩: ∃ x:Int,Hid (x=ov.getD 0):=⟨_,I rfl⟩;obtain⟨er,her⟩: ∃ x:Int,Hid (x=if ov.isSome then 0 else 13):=⟨_,I rfl⟩;rw[show Rt.spot D.rl c (d)=ov from (by rw[<- hov.out];unfold bN.at_;rw[bE (by have:=hb0.out;omega)])]at pV;unfold Jz at pV;rw[<- hxv.out,<- her.out]at pV;have KS:=I pV;clear pV;obtain⟨S,hS⟩: ∃ S:Z->Prop,S=wh D w0 g mb n f en q la c kb fb b0 (d):=⟨_,rfl⟩;have aR:Hid (∀ w':Z,wh D w0 g mb n f en q la c kb fb b0 (d) w'↔S w'):=I (λw'=>by rw[hS]);clear hS;have hC: ∃ z:aK S,W3.drew=z.now:=aK.of ((aR.out _).1 ⟨H3.out.keep ((aD _ W3).drew) rfl rfl,oD.out,⟨0,0,lF.out⟩⟩);haveI:Nonempty (aK S):=by obtain⟨d,_⟩:=hC;exact⟨d⟩
    have Lt: ∀ z:aK S,z.now.cell? ⟨g,22,J⟩=N (T D.rA D.rl.length D.rc):=λz=>(((aR.out _).2 z.is).fJ.blk.cell 22).trans ((BX hD.size O).trans hD.rat)
    have p31: ∀ z:aK S,z.now.cell? ⟨g,31,J⟩=N (av c):=λz=>(((aR.out _).2 z.is).fJ.blk.cell 31).trans (jr hD.size 4)
    have pk: ∀ z:aK S,z.now.cell? ⟨kb,1,J⟩=N (G F (d)):=λz=>((aR.out _).2 z.is).key.cell 1
    refine nK (n:=24) S 23 ai rfl ?_;have hT:=tg 0;(iterate 4 refine aab hT hC ?_;clear hT;intro hT K hK;go_big_quiet_op;go_big_quiet_on);clear hT;refine Fq 4 hC ?_;intro K hK;refine Fh 29 _ rfl g 0 rfl D.aB (λz=>JO hD ((aR.out _).2 z.is).fJ.blk) bQ 21 gy hD.uO (hK _ ?_);clear hK K
    (try simp only[Zx])
    have hT:=tg 5;(iterate 11 refine aab hT hC ?_;clear hT;intro hT K hK;go_big_quiet_op;go_big_quiet_on);clear hT;have pO:=I lF.out.drew;have kU:=I (aP.out.step ((aD _ W3).drew));generalize W3.drew=W4 at*;clear Lt p31 pk;refine dw (i:=16) ai rfl rfl ?_;intro K hK;go_simp;go_at_call 161;refine KS.out.mono ?_;rintro e w5 ⟨rfl,hb5⟩
    (try go_wp2_with fail)
    have hL5:=((aR.out _).2 (aK.un hC)).step hb5;replace hC: ∃ z:aK S,w5=z.now:=aK.of ((aR.out _).1 hL5);refine hK _ _ (.inr (.inr hC)) ?_;clear hK K KS
    (try simp only[Zx])
    have qG:=I (pO.out.step hb5);have xH:=I ((((kU.out.step hb5).set BF.out CS 0 (G F xv))).set BF.out CS 1 (G F er));have H5:=I hL5.fJ;have DY:=I hL5.key;have qH:=I hL5;clear hL5;have hT:=tg 17;(iterate 4 refine aab hT hC ?_;clear hT;intro hT K hK;go_big_quiet_op;go_big_quiet_on);clear hT;have q0:w5.cell? ⟨fb,0,J⟩=N (G F 0):=qG.out.cell 0;have s0:w5.frozen? ⟨fb,0,J⟩=ag:=qG.out.frozen 0;refine dw (i:=21) ai rfl rfl ?_;intro K hK;go_simp;have tJ:=I (qH.out.put CO CP CR 0 xv);replace hC: ∃ z:aK S,w5.setCell ⟨fb,0,J⟩ (G F xv)=z.now:=aK.of ((aR.out _).1 tJ.out);refine hK _ _ (.inr (.inr hC)) ?_;clear hK K q0 s0
    (try simp only[Zx])
    have tu:=I (qG.out.bZ 0 (G F xv));generalize w5.setCell ⟨fb,0,J⟩ (G F xv)=w6 at*;refine Fq 22 hC ?_;intro K hK;go_big_quiet_op;go_big_quiet_on;have q0:w6.cell? ⟨fb,1,J⟩=N (G F 0):=tu.out.cell 1;have s0:w6.frozen? ⟨fb,1,J⟩=ag:=tu.out.frozen 1;refine dw (i:=23) ai rfl rfl ?_;intro K hK;go_simp;refine hK _ _ (.inr (.inl rfl)) ?_;clear hK K q0 s0
    (try simp only[Zx])
    refine kH ai ?_ _;have tC:=I (tu.out.bZ 1 (G F er));have fV:=I (tJ.out.put CO CP CR 1 er);generalize w6.setCell ⟨fb,1,J⟩ (G F er)=w7 at*;clear tJ qH tu qG H5 DY hC H3 oD;go_upto_region 14 with fail
    obtain⟨l2,hl2⟩:=AR (a:=b0) (b:=(d)) (pJ (by have:=hb0.out;omega)) (pJ O);have xI:Hid (R=ov):=I (by rw[HL.out,<- hov.out,hb0.out]);have yO:Hid (wD ov= az #[G F xv,G F er]):=I (by unfold wD;rw[hxv.out,her.out]);have xY:=fV.out.fJ.map.same (w':=w7.drew) rfl;obtain⟨wx,r5,m5,g5⟩:=xY.Pb (zo f (jf b0 (d)) (az #[G F xv,G F er])) (t:=108) sM sW fQ (jf b0 (d)) (az #[G F xv,G F er]) l2 hl2 (Hg _ _ _) (λq _ _ hq=>Hf f _ hq);have CB:fZ D w0 wx g mb (n+1) (zo f (jf b0 (d)) (az #[G F xv,G F er])) en q la c:=by
     refine⟨fV.out.fJ.hB,fV.out.fJ.hM,fV.out.fJ.below.drew.grown g5 fV.out.fJ.below.size (λk e=>by cases e;exact fV.out.fJ.hM),(fV.out.fJ.blk.drew).grown g5 (λe=>by injection e with e;exact fV.out.fJ.map.lI fV.out.fJ.blk e.symm),m5,λb2 d2 v hv=> ?_⟩
     by_cases hq:jf b2 d2=jf b0 (d)
     ·rw[hq,Hg]at hv;obtain⟨e1,e2⟩:=UB hq;obtain rfl:=(uz hv).symm;rw[e1,e2,hov.out,yO.out]
     ·rw[Hf f _ hq]at hv;exact fV.out.fJ.inv _ _ _ hv
    have vO:=I (tC.out.drew.grown g5 (λe=>by injection e with e;exact fV.out.fJ.map.lI tC.out e.symm));have fH:=I CB;have jN:=I ((xH.out.step ((aD _ w7).drew)).put xY g5);obtain⟨S2,hS2⟩: ∃ S:Z->Prop,S=λw'=>w'=w7.drew:=⟨_,rfl⟩
    have HS2:Hid (∀ w':Z,S2 w'->w'=w7.drew):=I (λw' h=>by rw[hS2]at h;exact h);have hC: ∃ z:aK S2,w7.drew=z.now:=aK.of (by rw[hS2]);haveI:Nonempty (aK S2):=by obtain⟨d,_⟩:=hC;exact⟨d⟩
    have p30: ∀ z:aK S2,z.now.cell? ⟨g,30,J⟩=N (.map (N mb)):=λz=>by rw[HS2.out _ z.is];exact(fV.out.fJ.blk.drew.cell 30).trans (jr hD.size 3)
    have Lx: ∀ z:aK S2,z.now.cell? ⟨kb,0,J⟩=N (G F b0):=λz=>by rw[HS2.out _ z.is];exact fV.out.key.drew.cell 0
    have AY: ∀ z:aK S2,z.now.cell? ⟨kb,1,J⟩=N (G F (d)):=λz=>by rw[HS2.out _ z.is];exact fV.out.key.drew.cell 1
    have Lu: ∀ z:aK S2,z.now.cell? ⟨fb,0,J⟩=N (G F xv):=λz=>by rw[HS2.out _ z.is];exact tC.out.drew.cell 0
    have Lv: ∀ z:aK S2,z.now.cell? ⟨fb,1,J⟩=N (G F er):=λz=>by rw[HS2.out _ z.is];exact tC.out.drew.cell 1
    clear hS2 m5 g5 xY CB;unfold jf at r5;refine nK (n:=7) S2 6 ai rfl ?_;have hT:=tg 0;(iterate 6 refine aab hT hC ?_;clear hT;intro hT K hK;go_big_quiet_op;go_big_quiet_on);clear hT;refine dw (i:=6) ai rfl rfl ?_;intro K hK;go_simp;refine hK _ _ (.inr (.inl rfl)) ?_;clear hK K p30 Lx AY Lu Lv r5 hC
    (try simp only[Zx])
    refine kH ai ?_ _;have x0:wx.cell? ⟨fb,0,J⟩=N (G F xv):=vO.out.cell 0;have x1:wx.cell? ⟨fb,1,J⟩=N (G F er):=vO.out.cell 1;go_upto_region 15 with fail
    go_quiet (fail);go_wp2_with fail;go_ret2;exact⟨by rw[xI.out,<- hxv.out,<- her.out];rfl,n+1,_,aC _,fH.out.step (iC (aD _ wx) nq),jN.out.step (iC (aD _ wx) nq)⟩
  |some v=>
   obtain⟨ov,hov⟩: ∃ o,Hid (D.at_ c (b) (d)=o):=⟨_,I rfl⟩;obtain⟨xv,hxv⟩: ∃ x:Int,Hid (x=ov.getD 0):=⟨_,I rfl⟩;obtain⟨er,her⟩: ∃ x:Int,Hid (x=if ov.isSome then 0 else 13):=⟨_,I rfl⟩;have hvv:v= az #[G F xv,G F er]:=by rw[H2.out.inv _ _ _ hf,hov.out,hxv.out,her.out];rfl
   have xI:Hid (R=ov):=I (by rw[HL.out,<- hov.out]);obtain⟨l,hl⟩:=AR (a:=(b)) (b:=(d)) (pJ O) (pJ O);have u1:=(H2.out.map.same (w':=W.drew) rfl).look (t:=108) sM sW (wX _) hl;have u2:=((H2.out.map.alloc (U #[G F 0,G F 0] 256)).same (w':=(W.alloc (U #[G F 0,G F 0] 256)).drew) rfl).look (t:=108) sM sW (wX _) hl;rw[hf,hvv]at u1 u2;simp only[rz,rD,jf]at u1 u2;clear hvv hf;go_cut [9,10] (λs9 s10 wx=> ∃ fb:Nat,s9= aN (N ⟨fb,0,J⟩)/\s10= .bool ae/\jC w wx/\fZ D w0 wx g mb n f en q la c/\au wx fb 256 #[G F xv,G F er])
   case first=>
    have lF:=I (au.new W 256 #[G F xv,G F er]);have H3:=I (H2.out.step ((aD W.heap.size W).alloc (aC _) (U #[G F xv,G F er] 256)));go_region
    all_goals go_wp2_with fail
    all_goals go_meet
    all_goals exact⟨_,rfl,rfl,(HP.out.step ((aD W.heap.size W).alloc (aC _) _)).step ((aD _ _).drew),H3.out.keep ((aD _ _).drew) rfl rfl,lF.out.drew⟩
   case rest=>
    obtain⟨fb,rfl,rfl,hp3,h3,hf3⟩:=hcut;have aP:=I hp3;have H3:=I h3;have x0:wc.cell? ⟨fb,0,J⟩=N (G F xv):=hf3.cell 0;have x1:wc.cell? ⟨fb,1,J⟩=N (G F er):=hf3.cell 1;clear BZ Ca k0 k1 uj k1' u1 u2 h3 hf3 hp3;go_upto_region 15 with fail
    go_quiet (fail);go_wp2_with fail;go_ret2;exact⟨by rw[xI.out,<- hxv.out,<- her.out];rfl,n,f,O,H3.out.step (iC (aD _ wc) nq),aP.out.step (iC (aD _ wc) nq)⟩
end
def bN.rt (D:bN) (en:Nat) (la a d:Int):Option (Int×Int):=
 (It.Fx (D.el.getD en default).links.l a la).bind λm=>if Ch.eO D.cl m then (D.lk (D.el.getD en default).cK la (Ch.bU D.cl m).basis d).map λv=>(m,v) else J
def acu (D:bN) (w:Z) (w0:Z) (g mb n:Nat) (en q la:Int) (c:ByteArray) (r:Option (Int×Int)) (e:eG) (w':Z):Prop:=
 ((∃ m v,r=N (m,v)/\e= bM (bG #[G F m,G F v,G F 0]))\/(r=J/\ ∃ a b E:Int,E≠0/\e= bM (bG #[G F a,G F b,G F E])))/\
 ∃ n' f,n'<=n+1/\fZ D w0 w' g mb n' f en q la c/\jC w w'
section
variable (w:Z)
theorem afS (D:bN) (hD:D.Is) (w0:Z) (hI:D.In w0) (g mb n:Nat) (f:aj->Option aj) (en:Nat) (hen:en<D.el.length) (q la:Int) (H:fZ D w0 w g mb n f en q la D.el[en].cK) (a d:Int) (hn:n<100000) (hc:Gr.ed D.el[en].cK=ae) (CK:ax.ok D.y D.m D.p=ae) (hla:Gr.eZ la=ae) (hd:Gr.eZ d=ae)
 (hlk:D.el[en].links.l.length<=100000) (hac:Ch.eO D.el[en].jw.l a=ae) (hbs: ∀ m,Ch.eO D.cl m=ae-> -1000<=(Ch.bU D.cl m).basis/\(Ch.bU D.cl m).basis<=1000):
 aF ak 73 #[aN (N ⟨g,0,J⟩),G F a,G F d] w (acu D w w0 g mb n en q la D.el[en].cK (D.rt en la a d)):=by
 have Gf:Hid (D.rt en la a d=(It.Fx D.el[en].links.l a la).bind λm=>if Ch.eO D.cl m then (D.lk D.el[en].cK la (Ch.bU D.cl m).basis d).map λv=>(m,v) else J):=I (by
  unfold bN.rt;simp[hen])
 have hok:=hI.xU.ok D.el[en] (bP hen);have hfe:=hD.few.EE en hen;obtain⟨bb,o,hA,aX,g0,g1,g2,g3,g4⟩:=aY.at_ (hI.xU.en.below H.below (aC _)) hen;obtain⟨x,hx⟩: ∃ x,D.el[en]=x:=⟨_,rfl⟩;rw[hx]at H hc hlk hac Gf hok hfe g0 g1 g2 g3 g4 |-;clear hx;have KA:=I (λ(W:Z) (hb:Below w0.heap.size w0 W)=>ake W x.name x.cK x.jw x.links x.joint a la hla (by rw[<- BR];exact(hok.2.2.1.1.1.below hb (aC _)).more hb.size) hfe.1 ((hok.2.2.2.1.1.1.below hb (aC _)).more hb.size) hlk hac);have KF:=I (λ(W:Z) (c:Int) (hb:Below w0.heap.size w0 W)=>Gz D.cl c D.cA D.cc W ((hI.xU.ch.below hb (aC _)).more hb.size) (by have:=hD.few.ch;omega));have KLK:=I (λ(W:Z) (H:fZ D w0 W g mb n f en q la x.cK) (b:Int) (hb: -1000<=b/\b<=1000)=>aj7 W D hD w0 hI g mb n f en q la x.cK H b d hn hc CK hla hd hb);have c20:w.cell? ⟨g,20,J⟩=N (T (N ⟨bb,o,J⟩) D.el.length D.ec):=by rw[<- hA];exact(H.blk.cell 20).trans (hD.b O)
 have y7:w.cell? ⟨g,27,J⟩=N (G F en):=(H.blk.cell 27).trans (jr hD.size 0);have Gt:w.cell? ⟨g,29,J⟩=N (G F la):=(H.blk.cell 29).trans (jr hD.size 2);have TR:=H.blk.lt;have hlb:bb<w.heap.size:=ji aX H.below.size;have HH:=I H;have FY:=I hbs;clear H hok hfe hac hlk hI hbs hc CK hla hd;go_enter Tryz.func73,Tryz.ntmps73;go_upto_region 1 with fail
 obtain⟨S,hS⟩: ∃ S:Z->Prop,S=λw'=>Below w.heap.size w w':=⟨_,rfl⟩
 have aR:Hid (∀ w':Z,Below w.heap.size w w'↔S w'):=I (λw'=>by rw[hS]);clear hS;have hC: ∃ d:aK S,w.drew=d.now:=aK.of ((aR.out _).1 ((aD _ w).drew));haveI:Nonempty (aK S):=by obtain⟨d,_⟩:=hC;exact⟨d⟩
 have p20: ∀ z:aK S,z.now.cell? ⟨g,20,J⟩=_:=λz=>(((aR.out _).2 z.is).cell (p:=⟨g,20,J⟩) TR).trans c20
 have p27: ∀ z:aK S,z.now.cell? ⟨g,27,J⟩=_:=λz=>(((aR.out _).2 z.is).cell (p:=⟨g,27,J⟩) TR).trans y7
 have p29: ∀ z:aK S,z.now.cell? ⟨g,29,J⟩=_:=λz=>(((aR.out _).2 z.is).cell (p:=⟨g,29,J⟩) TR).trans Gt
 have q0: ∀ z:aK S,z.now.cell? ⟨bb,o+en*5,J⟩=_:=λz=>(((aR.out _).2 z.is).cell (p:=⟨bb,o+en*5,J⟩) hlb).trans g0
 have q1: ∀ z:aK S,z.now.cell? ⟨bb,o+en*5+1,J⟩=_:=λz=>(((aR.out _).2 z.is).cell (p:=⟨bb,o+en*5+1,J⟩) hlb).trans g1
 have q2: ∀ z:aK S,z.now.cell? ⟨bb,o+en*5+2,J⟩=_:=λz=>(((aR.out _).2 z.is).cell (p:=⟨bb,o+en*5+2,J⟩) hlb).trans g2
 have q3: ∀ z:aK S,z.now.cell? ⟨bb,o+en*5+3,J⟩=_:=λz=>(((aR.out _).2 z.is).cell (p:=⟨bb,o+en*5+3,J⟩) hlb).trans g3
 have q4: ∀ z:aK S,z.now.cell? ⟨bb,o+en*5+4,J⟩=_:=λz=>(((aR.out _).2 z.is).cell (p:=⟨bb,o+en*5+4,J⟩) hlb).trans g4
 unfold Sl.val at q2 q3;clear c20 y7 Gt g0 g1 g2 g3 g4;refine nK (n:=23) S 22 ai rfl ?_;have hT:=tg 0;(iterate 17 refine aab hT hC ?_;clear hT;intro hT K hK;go_big_quiet_op;go_big_quiet_on);clear hT;have Ad:=I (KA.out w.drew HH.out.below.drew);generalize It.Fx x.links.l a la=TA at*;refine dw (i:=17) ai rfl rfl ?_;intro K hK;go_simp;go_at_call 113;refine Ad.out.mono ?_;rintro e w2 ⟨hcase,hb2⟩;replace hC: ∃ z:aK S,w2=z.now:=aK.of ((aR.out _).1 ((aD _ w).drew.trans hb2));have BB:=I (HH.out.step ((aD _ w).drew.trans hb2));have WR:=Gf;have oH:Hid (jC w w2):=I (λ_ _ _ h=>h.step ((aD _ w).drew.trans hb2))
 rcases hcase with ⟨m,Kn,rfl⟩|⟨Kn,u,E,hE0,rfl⟩
 ·have HR2:Hid (D.rt en la a d=if Ch.eO D.cl m then (D.lk x.cK la (Ch.bU D.cl m).basis d).map λv=>(m,v) else J):=I (by rw[Gf.out,Kn];rfl);generalize D.rt en la a d=RR at*;clear Gf WR Kn KA Ad p20 p27 p29 q0 q1 q2 q3 q4
  (try go_wp2_with fail)
  refine hK _ _ (.inr (.inr hC)) ?_;clear hK K
  (try simp only[Zx])
  have hT:=tg 18;(iterate 4 refine aab hT hC ?_;clear hT;intro hT K hK;go_big_quiet_op;go_big_quiet_on);clear hT;refine dw (i:=22) ai rfl rfl ?_;intro K hK;go_simp;refine hK _ _ (.inr (.inl rfl)) ?_;clear hK K
  (try simp only[Zx])
  refine kH ai ?_ _;have c4:w2.cell? ⟨g,4,J⟩=N (T D.cA D.cl.length D.cc):=(BB.out.blk.cell 4).trans (hD.b O);have Ny:=I (KF.out w2 m BB.out.below);have HBM:=I (FY.out m);generalize Ch.bU D.cl m=A at*
  cases qd:Ch.eO D.cl m
  ·rw[qd]at Ny HR2;simp only[zI,zJ]at HR2;go_wp2_with (go_at_call 114;refine Ny.out.mono ?_;rintro e w3 ⟨rfl,hb3⟩);go_ret3;exact⟨.inr ⟨HR2.out,0,0,15,aJ,rfl⟩,n,f,O,(BB.out.step hb3).step ((aD _ w3).alloc (aC _) _),(oH.out.step hb3).step ((aD _ w3).alloc (aC _) _)⟩
  ·rw[qd]at Ny HR2;have hbm:=HBM.out qd;simp only[sV]at HR2;go_upto_region 7 with (go_at_call 114;refine Ny.out.mono ?_;rintro e w3 ⟨rfl,hb3⟩)
   have H4:=I ((BB.out.step hb3).step ((aD _ w3).alloc (aC _) (U #[G F A.code,G F A.kind,G F A.basis,G F A.parent] 212)));have c2:(w3.alloc (U #[G F A.code,G F A.kind,G F A.basis,G F A.parent] 212)).cell? ⟨w3.heap.size,2,J⟩=N (G F A.basis):=(au.new w3 212 _).cell 2;have kU:Hid (jC w _):=I ((oH.out.step hb3).step ((aD _ w3).alloc (aC _) (U #[G F A.code,G F A.kind,G F A.basis,G F A.parent] 212)));have Jv:=I (KLK.out _ H4.out A.basis hbm);generalize w3.alloc (U #[G F A.code,G F A.kind,G F A.basis,G F A.parent] 212)=w4 at*;generalize D.lk x.cK la A.basis d=OV at*;unfold XG at Jv
   rcases OV with _|v
   ·simp only[Dz,wV,zI,zJ]at Jv;go_wp2_with (go_at_call 115;refine Jv.out.mono ?_;rintro e w5 ⟨rfl,n',f',hn',hD5,Tk⟩);go_ret3;exact⟨.inr ⟨HR2.out,m,0,13,aJ,rfl⟩,n',f',hn',hD5,λB t cs h=>Tk B t cs (kU.out B t cs h)⟩
   ·simp only[rz,rD,sV]at Jv;go_wp2_with (go_at_call 115;refine Jv.out.mono ?_;rintro e w5 ⟨rfl,n',f',hn',hD5,Tk⟩);go_ret3;exact⟨.inl ⟨m,v,HR2.out,rfl⟩,n',f',hn',hD5,λB t cs h=>Tk B t cs (kU.out B t cs h)⟩
 ·have HR2:Hid (D.rt en la a d=J):=I (by rw[Gf.out,Kn];rfl);generalize D.rt en la a d=RR at*;have CE:(E==0)=ag:=vH hE0;clear Gf WR Kn KA Ad p20 p27 p29 q0 q1 q2 q3 q4
  (try go_wp2_with fail)
  refine hK _ _ (.inr (.inr hC)) ?_;clear hK K
  (try simp only[Zx])
  have hT:=tg 18;(iterate 4 refine aab hT hC ?_;clear hT;intro hT K hK;go_big_quiet_op;go_big_quiet_on);clear hT;refine dw (i:=22) ai rfl rfl ?_;intro K hK;go_simp;refine hK _ _ (.inr (.inl rfl)) ?_;clear hK K
  (try simp only[Zx])
  refine kH ai ?_ _;go_wp2_with fail;go_ret3;exact⟨.inr ⟨HR2.out,0,0,15,aJ,rfl⟩,n,f,O,BB.out,oH.out⟩
end
def bN.env (D:bN) (q:Int):It.Env:=⟨D.cur,D.y,D.m,D.p,q,D.cl,D.ro,D.rl⟩
theorem agC (D:bN) (q:Int) (c:ByteArray) (b d:Int):(D.env q).rate c b d=D.lk c (ax.cB D.y D.m D.p q) b d:=by
 unfold It.Env.rate bN.lk bN.at_ bN.key bN.env It.Env.last It.Env.per
 by_cases h:c=D.cur
 ·simp[h]
 ·by_cases h1:b=1
  ·simp[h,h1]
  ·by_cases h2:b=2
   ·simp[h,h2]
   ·simp[h,h1,h2]
theorem alR {V:Bool} {y m p q c:Int} {cl:List Acc} (h:Ch.eO cl c=ag):Cr.wO V y m p q cl c≠0:=by
 unfold Cr.wO
 split
 ·simp[h]
 ·assumption
theorem YB (D:bN) (q:Int) (en:Nat) (x:aI) (l:bq) (k:Int):(D.env q).item (D.el.getD en default) x l k=
 (D.rt en (ax.cB D.y D.m D.p q) l.ek x.date).bind λmv=>(Rt.conv l.amount mv.2).bind λa=>
  if Cr.wO ae D.y D.m D.p q D.cl mv.1=0 then N ⟨⟨x.id,k⟩,x.bF,Cr.Dg ae D.y D.m D.p q D.cl D.ro mv.1 x.date,l.partner,x.date,a⟩ else J:=by
 unfold It.Env.item bN.rt;simp only[agC];simp only[bN.env,It.Env.last]
 cases It.Fx (D.el.getD en default).links.l l.ek (ax.cB D.y D.m D.p q) with
 |none=>rfl
 |some m=>
  simp only[Option.bind_some]
  cases hb:Ch.eO D.cl m
  ·have hp:=alR (V:=true) (y:=D.y) (m:=D.m) (p:=D.p) (q:=q) hb;simp[hp]
  ·simp only[sV]
   cases D.lk (D.el.getD en default).cK (ax.cB D.y D.m D.p q) (Ch.bU D.cl m).basis x.date<;>rfl
def iR:Array aj:= #[G F 0,G F 0,G F 0,G F 0,G F 0,G F 0,G F 0]
def Qq (D:bN) (w:Z) (w0:Z) (g mb n:Nat) (en q la:Int) (c:ByteArray) (r:Option bI) (e:eG) (w':Z):Prop:=
 ((∃ i,r=N i/\e= bM (bG #[az i.cells.toArray,G F 0]))\/(r=J/\ ∃ E:Int,E≠0/\e= bM (bG #[az iR,G F E])))/\
 ∃ n' f,n'<=n+1/\fZ D w0 w' g mb n' f en q la c/\jC w w'
theorem abN {D:bN} (hD:D.Is) {en:Nat} {la a d m v:Int} (h:D.rt en la a d=N (m,v)):1<=v/\v<=1000000000000:=by
 unfold bN.rt at h;simp only[VG]at h;obtain⟨m',_,h⟩:=h
 split at h
 ·simp only[P6]at h;obtain⟨v',h1,h2⟩:=h;injection h2 with h2 h3
  subst h3;unfold bN.lk bN.at_ at h1
  split at h1
  ·injection h1 with h1;omega
  ·split at h1
   ·exact Rt.aew hD.rv _ _ _ _ _ h1
   ·exact Rt.aoa hD.rv _ _ _ h1
 ·cases h
theorem jC.refl (w:Z):jC w w:=λ_ _ _ h=>h
theorem jC.trans {a b c:Z} (h:jC a b) (h2:jC b c):jC a c:=λB t cs hB=>h2 B t cs (h B t cs hB)
theorem jC.row {w W:Z} (h:jC w W) {k:Nat} (hk:w.heap.size<=k) (cs:Array aj):jC w (W.setRow k cs):=λB t cs' hB=>NS (h B t cs' hB) (by have:=hB.lt;omega) cs
theorem fZ.row {D:bN} {w0 w:Z} {g mb n k:Nat} {f:aj->Option aj} {en q la:Int} {c:ByteArray} (h:fZ D w0 w g mb n f en q la c) (hk:g<k) (hm:mb<k) (hw:w0.heap.size<=k) (cs:Array aj):fZ D w0 (w.setRow k cs) g mb n f en q la c:=
 h.keep (oJ (aD _ w) hw) (FE w k g cs O) (FE w k mb cs O)
theorem uh:(ak.info? 83).map (·.size)=N 7:=ai
theorem Le:iR.all (·.oneCell')=ae:=ai
section
variable (w:Z)
theorem Yw (D:bN) (hD:D.Is) (w0:Z) (hI:D.In w0) (g mb n:Nat) (f:aj->Option aj) (en:Nat) (hen:en<D.el.length) (q:Int) (H:fZ D w0 w g mb n f en q (ax.cB D.y D.m D.p q) D.el[en].cK) (x:aI) (hx:Rd w0 w0.heap.size 3 x.lines.A x.lines.l.length (cellsOf bq.cells x.lines.l)) (k:Nat) (hk:k<x.lines.l.length) (hn:n<100000) (hc:Gr.ed D.el[en].cK=ae) (CK:ax.ok D.y D.m D.p=ae) (hla:Gr.eZ (ax.cB D.y D.m D.p q)=ae) (hd:Gr.eZ x.date=ae)
 (hlk:D.el[en].links.l.length<=100000) (hac:Ch.eO D.el[en].jw.l x.lines.l[k].ek=ae) (kQ:pF x.lines.l[k].amount=ae) (hbs: ∀ m,Ch.eO D.cl m=ae-> -1000<=(Ch.bU D.cl m).basis/\(Ch.bU D.cl m).basis<=1000):
 aF ak 39 #[aN (N ⟨g,0,J⟩),az x.cells.toArray,G F k] w (Qq D w w0 g mb n en q (ax.cB D.y D.m D.p q) D.el[en].cK ((D.env q).item (D.el.getD en default) x x.lines.l[k] k)):=by
 have HIT:=I (YB D q en x x.lines.l[k] k);generalize (D.env q).item (D.el.getD en default) x x.lines.l[k] k=R at*;have KR:=I (λ(W:Z) (H:fZ D w0 W g mb n f en q (ax.cB D.y D.m D.p q) D.el[en].cK)=>afS W D hD w0 hI g mb n f en hen q _ H x.lines.l[k].ek x.date hn hc CK hla hd hlk hac hbs);obtain⟨bb,o,hA,aX,g0,g1,g2⟩:=bq.at_ (hx.below H.below (aC _)) hk;have KC:=I (λ(W:Z) (r:Int) (hr:1<=r/\r<=1000000000000)=>akp W x.lines.l[k].amount r kQ hr);generalize hlk2:x.lines.l[k]=l at*;obtain⟨id,xe,da,kd,fo,tx,⟨ll,lA,lc⟩⟩:=x;dsimp only at*;unfold aI.cells Sl.val;dsimp only;have hX:=((au.new w 107 #[G F id,G F xe,G F da,G F kd,G F fo,av tx,T lA ll.length lc]).alloc (U iR 83));have hZ:=eT w (U #[G F id,G F xe,G F da,G F kd,G F fo,av tx,T lA ll.length lc] 107) 83 iR;have hst:=((aD w.heap.size w).alloc (aC _) (U #[G F id,G F xe,G F da,G F kd,G F fo,av tx,T lA ll.length lc] 107)).alloc aL (U iR 83);have H1:=I (H.step hst);have nO:=I ((jC.refl w).step hst);have HB:=H.below.size;unfold iR at hX hZ hst H1 nO;subst hA;go_enter Tryz.func39,Tryz.ntmps39;go_upto_region 1 with fail
 have hlb:bb<w.heap.size:=ji aX HB;have e0:=(hst.cell (p:=⟨bb,o+k*3,J⟩) hlb).trans g0;have e1:=(hst.cell (p:=⟨bb,o+k*3+1,J⟩) hlb).trans g1;have e2:=(hst.cell (p:=⟨bb,o+k*3+2,J⟩) hlb).trans g2;generalize (w.alloc (U #[G F id,G F xe,G F da,G F kd,G F fo,av tx,T (N ⟨bb,o,J⟩) ll.length lc] 107)).alloc (U #[G F 0,G F 0,G F 0,G F 0,G F 0,G F 0,G F 0] 83)=W1 at*;have x6:W1.cell? ⟨w.heap.size,6,J⟩=N (T (N ⟨bb,o,J⟩) ll.length lc):=hX.cell 6;clear g0 g1 g2;obtain⟨OO,lam,zm⟩:=l;dsimp only at*;go_upto_region 2 with fail
 have gU:=(aD W1.heap.size W1).alloc (aC _) (U #[G F OO,G F lam,G F zm] 131);have H2:=I (H1.out.step gU);have oH:=I (nO.out.step gU);have dn:=I (hX.step gU);have HZ2:=I (hZ.step gU);have HL2:=I (au.new W1 131 #[G F OO,G F lam,G F zm]);have hz1:w.heap.size+1<W1.heap.size:=hZ.lt;generalize W1.alloc (U #[G F OO,G F lam,G F zm] 131)=W2 at*;have y0:W2.cell? ⟨W1.heap.size,0,J⟩=N (G F OO):=HL2.out.cell 0;have y2:W2.cell? ⟨w.heap.size,2,J⟩=N (G F da):=dn.out.cell 2;have KR2:=I (KR.out W2 H2.out);clear e0 e1 e2 hX hZ H1 nO x6 hst gU;generalize W1.heap.size=lb at*;have hgw:g<w.heap.size+1:=by have:=H.blk.lt;omega
 have hmw:mb<w.heap.size+1:=by have:=H.map.lt;omega
 have hw0:w0.heap.size<=w.heap.size+1:=O;have xy:=I hI;have M4:=I hD.few;have FZ:=I hD;have hgl:=H.blk.lt;clear KR H;go_upto_region 3 with (go_at_call 73;refine KR2.out.mono ?_;rintro e w3 ⟨⟨m,v,hr,rfl⟩|⟨hr,aa,ab,E,hE,rfl⟩,n',f',hn',hD3,hP3⟩)
 ·have hv:=abN FZ.out hr;have HR1:Hid (R=(Rt.conv lam v).bind λa=>if Cr.wO ae D.y D.m D.p q D.cl m=0 then N ⟨⟨id,k⟩,xe,Cr.Dg ae D.y D.m D.p q D.cl D.ro m da,zm,da,a⟩ else J):=I (by rw[HIT.out,hr];rfl);have l1:w3.cell? ⟨lb,1,J⟩=N (G F lam):=(hP3 _ _ _ HL2.out).cell 1;have HZ3:=I (hP3 _ _ _ HZ2.out);have aP:=I (oH.out.trans hP3);have jO:=I (hP3 _ _ _ dn.out);have BG:=I (hP3 _ _ _ HL2.out);have HD3:=I hD3;have K3:=I (KC.out w3 v hv);clear hr HIT hP3 hD3 HZ2 oH dn HL2 KC hv;go_upto_region 6 with (go_at_call 74;refine K3.out.mono ?_;rintro e w4 ⟨⟨am,hcv,rfl⟩|⟨hcv,aa,E,hE,rfl⟩,hb4⟩)
  ·have HR2:Hid (R=if Cr.wO ae D.y D.m D.p q D.cl m=0 then N ⟨⟨id,k⟩,xe,Cr.Dg ae D.y D.m D.p q D.cl D.ro m da,zm,da,am⟩ else J):=I (by rw[HR1.out,hcv];rfl);have vX:=I (HZ3.out.step hb4);have kU:=I (aP.out.step hb4);have gL:=I (jO.out.step hb4);have zQ:=I (BG.out.step hb4);have HD4:=I (HD3.out.step hb4);have qV:w.heap.size+1<w4.heap.size:=vX.out.lt;have aid:=HD4.out.blk.lt;have RL:=afC D.aB D.cur D.y D.m D.p D.cl D.cA D.cc D.ro D.el D.eA D.ec w4.drew m da q (I FZ.out.HG) ((xy.out.step HD4.out.below).xU.step ((aD _ w4).drew)) M4.out;rw[FZ.out.gv]at RL;have KP:=I RL;clear RL hcv HR1 HZ3 aP jO BG HD3 K3 l1 hb4;generalize Cr.wO ae D.y D.m D.p q D.cl m=pe at*;generalize Cr.Dg ae D.y D.m D.p q D.cl D.ro m da=pv at*;go_upto_region 8 with fail
   obtain⟨S,hS⟩: ∃ S:Z->Prop,S=λw'=>Below w4.heap.size w4 w':=⟨_,rfl⟩
   have aR:Hid (∀ w':Z,Below w4.heap.size w4 w'↔S w'):=I (λw'=>by rw[hS]);clear hS;have hC: ∃ d:aK S,w4.drew=d.now:=aK.of ((aR.out _).1 ((aD _ w4).drew));haveI:Nonempty (aK S):=by obtain⟨d,_⟩:=hC;exact⟨d⟩
   have p28: ∀ z:aK S,z.now.cell? ⟨g,28,J⟩=N (G F q):=λz=>(((aR.out _).2 z.is).cell (p:=⟨g,28,J⟩) aid).trans ((HD4.out.blk.cell 28).trans (jr FZ.out.size 1))
   have x2: ∀ z:aK S,z.now.cell? ⟨w.heap.size,2,J⟩=N (G F da):=λz=>(((aR.out _).2 z.is).cell (p:=⟨w.heap.size,2,J⟩) (Nat.lt_of_succ_lt qV)).trans (gL.out.cell 2)
   refine nK (n:=18) S 17 ai rfl ?_;have hT:=tg 0;(iterate 4 refine aab hT hC ?_;clear hT;intro hT K hK;go_big_quiet_op;go_big_quiet_on);clear hT;refine Fq 4 hC ?_;intro K hK;refine Fh 29 _ rfl g 0 rfl D.aB (λz=>JO FZ.out (HD4.out.blk.step ((aR.out _).2 z.is))) bQ 21 gy FZ.out.uO (hK _ ?_);clear hK K
   (try simp only[Zx])
   have hT:=tg 5;(iterate 7 refine aab hT hC ?_;clear hT;intro hT K hK;go_big_quiet_op;go_big_quiet_on);clear hT;refine dw (i:=12) ai rfl rfl ?_;intro K hK;go_simp;go_at_call 75;refine KP.out.mono ?_;rintro e w5 ⟨rfl,hb5⟩;have EK:=(aD _ w4).drew.trans hb5;replace hC: ∃ z:aK S,w5=z.now:=aK.of ((aR.out _).1 EK)
   (try go_wp2_with fail)
   refine hK _ _ (.inr (.inr hC)) ?_;clear hK K
   (try simp only[Zx])
   have hT:=tg 13;(iterate 4 refine aab hT hC ?_;clear hT;intro hT K hK;go_big_quiet_op;go_big_quiet_on);clear hT;refine dw (i:=17) ai rfl rfl ?_;intro K hK;go_simp;refine hK _ _ (.inr (.inl rfl)) ?_;clear hK K
   (try simp only[Zx])
   refine kH ai ?_ _;have j5:=I (vX.out.step EK);have Ga:=I (kU.out.step EK);have uF:=I (gL.out.step EK);have F7:=I (zQ.out.step EK);have yG:=I (HD4.out.step EK);clear p28 x2 vX kU gL zQ HD4 KP hC aR EK hb5
   cases hpe:(pe==0)
   ·have HR3:R=J:=by rw[HR2.out,bE (by simpa using hpe)]
    go_wp2_with (refine oQ rfl 83 (.tmp 6) (.tmp 61) rfl (w.heap.size+1) iR rfl rfl 83 iR j5.out uh rfl Le ?_);refine iq (v:= bG #[az iR,G F 15]) (qY Tryz.results39 _ _ (w.heap.size+1) 83 iR rfl (mQ j5.out _) DC uh) rfl ?_;exact⟨.inr ⟨HR3,_,(by first|exact hE|decide),rfl⟩,n',f',hn',yG.out.row hgw hmw hw0 _,Ga.out.row (zK _) _⟩
   ·have hp0:pe=0:=by simpa using hpe
    have HR3:Hid (R=N ⟨⟨id,k⟩,xe,pv,zm,da,am⟩):=I (by rw[HR2.out,bB hp0]);have z0:w5.cell? ⟨w.heap.size,0,J⟩=N (G F id):=uF.out.cell 0;have z1:w5.cell? ⟨w.heap.size,1,J⟩=N (G F xe):=uF.out.cell 1;have z2:w5.cell? ⟨w.heap.size,2,J⟩=N (G F da):=uF.out.cell 2;have z3:w5.cell? ⟨lb,2,J⟩=N (G F zm):=F7.out.cell 2;clear HR2 hp0;go_wp2_with (refine oQ rfl 83 (.tmp 6) (.tmp 74) rfl (w.heap.size+1) #[G F id,G F k,G F xe,G F pv,G F zm,G F da,G F am] rfl rfl 83 iR j5.out uh rfl ai ?_);refine iq (v:= bG #[az #[G F id,G F k,G F xe,G F pv,G F zm,G F da,G F am],G F 0]) (qY Tryz.results39 _ _ (w.heap.size+1) 83 #[G F id,G F k,G F xe,G F pv,G F zm,G F da,G F am] rfl (mQ j5.out _) DC uh) rfl ?_;exact⟨.inl ⟨_,HR3.out,rfl⟩,n',f',hn',yG.out.row hgw hmw hw0 _,Ga.out.row (zK _) _⟩
  ·have Rj:R=J:=by rw[HR1.out,hcv];rfl
   have CE:(E==0)=ag:=vH hE;have j5:=I (HZ3.out.step hb4);have Ga:=I (aP.out.step hb4);have yG:=I (HD3.out.step hb4);clear hcv HR1 HZ3 aP jO BG HD3 K3 l1 hb4;go_wp2_with (refine oQ rfl 83 (.tmp 6) (.tmp 42) rfl (w.heap.size+1) iR rfl rfl 83 iR j5.out uh rfl Le ?_);refine iq (v:= bG #[az iR,G F 2]) (qY Tryz.results39 _ _ (w.heap.size+1) 83 iR rfl (mQ j5.out _) DC uh) rfl ?_;exact⟨.inr ⟨Rj,_,(by first|exact hE|decide),rfl⟩,n',f',hn',yG.out.row hgw hmw hw0 _,Ga.out.row (zK _) _⟩
 ·have Rj:R=J:=by rw[HIT.out,hr];rfl
  have CE:(E==0)=ag:=vH hE;have yG:=I hD3;have j5:=I (hP3 _ _ _ HZ2.out);have Ga:=I (oH.out.trans hP3);clear HIT hr hD3 hP3 HZ2 oH dn HL2 KC;go_wp2_with (refine oQ rfl 83 (.tmp 6) (.tmp 31) rfl (w.heap.size+1) iR rfl rfl 83 iR j5.out uh rfl Le ?_);refine iq (v:= bG #[az iR,G F E]) (qY Tryz.results39 _ _ (w.heap.size+1) 83 iR rfl (mQ j5.out _) DC uh) rfl ?_;exact⟨.inr ⟨Rj,_,(by first|exact hE|decide),rfl⟩,n',f',hn',yG.out.row hgw hmw hw0 _,Ga.out.row (zK _) _⟩
end
end Go.Proofs.YtbedbfdhfokifaaGreat
