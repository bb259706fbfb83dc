/- TopOnce: part 16 of the proof. -/
import Derived.RangeFuncKeeps
import Derived.Test.YtoaehdgokeicoaaGreatDoorZ14
import Derived.Test.YtoaehdgokeicoaaGreatDoorZ15
set_option maxRecDepth 100000
set_option maxHeartbeats 30000000
set_option linter.all false
namespace Go.Proofs.YtoaehdgokeicoaaGreatDoor
open K9 Z9 Go.Proofs.Tryz
section
variable{w v u W V U:eI}{n k m i j p b c d g N B K G M:Nat}{x y z X Y Z:eS}{D E F:Int}{A C H I:fE}{l L J T:fY}{r s t R S:fe}{f:ik}{a:Act}{O P Q:List Oper}{kB kC:List (eS×fS)}{kE:Oper}{kG:Array Oper}{kJ:kx}{kM kN:fS}
section
open Go.RowKit Go.Maps
section
theorem tq{P:Program}{c:eI->Prop}{d:Act->Prop}{f:Act}{rest:List Oper}(j:kE.guard=none)(g:ik)(parts:Array (Nat×Operand))(k:kE.op=.build g parts)(i:Array (Nat×eS))(l:(parts.map λ(m,n)=>(m,a.eval n))=i)(v:eS)(o:∀b,(Instr.build g i).run P b=.ok v b)(p:a.put kE.dst v=f)(h:wpQuiet P kG c d rest f):wpQuiet P kG c d (kE::rest) a:=by
 have r:Region.wanted kE (yielded kG a.tmps)=true:=by simp[Region.wanted,j]
 unfold wpQuiet;rw[fW r];refine⟨v,λb s=> ?_,by rw[p];exact h⟩;unfold Oper.quietAt;simp[execOp,k,l,o b,Result.andThen,Oper.quietUpon]
theorem EY(b a:Nat)(m:Im)(c:fE)(d:Nat)(f:eI):(Instr.build 177 #[(0,eE ((b:Int)+1)),(1,eV (fI (ff (qK a)))),(2,eE (oB a)),(3,fV m.eL.toArray),(12,Value.slice c 0 d)]).run prog f=.ok (fV (sd (b+1) a m 0 c d).eL.toArray) f:=by kernel_rfl
inductive vW (k:Nat):jw->Prop
 |fQ (h:1<=k):vW k (fI (nB k))
 |prog (h:k=0):vW k (fI (ff [[112]]))
theorem EZ{e:ik}{size:Nat}(h:w.ownsRow n e size (.slice A k m) k l){c:Nat}(a:(Value.slice A k m).ownBlock=some c):A=some (eJ c 0):=by
 rcases h.2 with⟨b,_⟩|⟨d,f,g,b,_⟩
 ·rw[b] at a;cases a
 ·rw[b] at a;simp only[Value.ownBlock,fd] at a;subst a;injection b
def zf(w w':eI)(s:LS):Prop:=∀b cs,eQ w b 177 cs->s.oA≠some (eJ b 0)->eQ w' b 177 cs
theorem zf.ext{w w':eI}{s:LS}(h:eF w w'):zf w w' s:=λb c a _=>h.eH a
def xv(w:eI)(G:Nat->fe)(N B p:Nat)(s:LS)(ex:List (eS×fS))(stk:fS)(k:Nat)(e:Ending)(w':eI):Prop:=
 (∃i,∃hi:i<s.os.length,s.os[i].fQ=k/\e=fH (ij #[eE (s.os[i].id:Nat),fz false,eE 0])/\eF w w')\/
 ((∀o∈s.os,o.fQ≠k)/\e=fH (ij #[eE ((s.last+1:Nat):Int),fz true,eE 0])/\∃rs rv oA oc m a bA bc,gG w' G N B p (s.more rs rv oA oc (sd (s.last+1) k m a bA bc)) (ex++oX m (ii G k)) stk/\CH B jz [] w w'/\a<=4294967296/\zf w w' s/\∀b,oA=some (eJ b 0)->s.oA=some (eJ b 0)\/w.heap.size<=b)
section
variable {w:eI} {G:Nat->fe} {N B p:Nat} {s:LS} {ex:List (eS×fS)} {stk:fS}
theorem gG.UL(h:gG w G N B p s ex stk){b:Nat}(k:b<=N){d:jw}(i:vW b d):∃f,Sv d 0 f/\∀a∈s.os,f a=true->a.fQ=b:=by
 cases i with
 |fQ l=>
  have m:=h.n12;refine⟨λa=>decide (a.im.c0=fI (nB b)),.name rfl ?_ (λ_=>rfl),λa g e=> ?_⟩
  ·rw[fU,pF _ _ (xj (by omega)).MR];decide
  ·have j:=(h.each a g).im.name;have n:=(h.each a g).fQ;rw[jh,j] at e;have c:=CK e;unfold ii at c;split at c
   ·simp[jp,nB] at c
   ·exact Iu (by omega) (by omega) c
 |prog o=>exact⟨λ_=>false,.path rfl (by rw[fU];exact yC _) (λ_=>rfl),λa _ e=>by cases e⟩
theorem gG.UM(h:gG w G N B p s ex stk){a:Nat}(f:a<=N){g:jw}(j:vW a g)(or:jw)(b:Nat):Calls prog 314 #[fw s.fp,eV g,eV or,.slice none 0 b,rR] w (Bv w (qK a) (oB a)):=by
 have c:=h.fs.VH a f;have i:=h.fs.at_ a f;have n:=h.n12;cases j with
 |fQ o=>
  have k:qK a=qz++[nB a]:=by unfold qK;rw[fG (by omega)];rfl
  refine EX B s.fp s.fb s.fn s.D s.fl (qK a) [ff (Ef++[nB a])] w _ _ none b h.mem.qb c (oB a) _ _ i (by simp) (λd l=> ?_);rw[k];exact Nd (nB a) or none b d (xj (by omega)) (by simp[nB]) (by simp[nB]) (λr t e=>by cases e)
 |prog m=>subst m;exact EX B s.fp s.fb s.fn s.D s.fl (qK 0) [] w _ _ none b h.mem.qb c (oB 0) _ _ i (by simp) (λd l=>J5 [[112]] or none b d c.ok)
theorem Rq(h:gG w G N B p s ex stk){k:Nat}(J:k<=N)(bo:s.last<9990){nm:jw}(ha:vW k nm)(or:jw)(aj:Nat):Calls prog 256 #[fw p,eV nm,eV or,.slice none 0 aj] w (xv w G N B p s ex stk k):=by
 have hn:=h.n12;have bQ:=h.iO;obtain⟨pd,aK,aL⟩:=h.UL J ha;have bp:=eD aL;have aM:(-9223372036854775808:Int)<=oB k/\oB k<=9223372036854775807:=by unfold oB;omega
 have K:=Cz h.up h.n12 h.g8 J;have aN:=eD (λb (o:eF w b)=>yZ (h.mem.ext o) (by omega) nm 0 pd aK (by decide));have aO:=eD (λb (o:eF w b)=>yZ (h.mem.ext o) (by omega) nm (oB k) (λl=>decide (oB l.fQ=oB k)) (.file (by unfold oB;omega) (λ_=>rfl)) aM);have aP:=eD (λb (o:eF w b)=>(h.ext o).UM J ha or aj);have aQ:=eD (λb (o:eF w b)=>JR B s.fp s.fb s.fn s.D s.fl (qK k) b (h.mem.ext o).qb (h.fs.VH k J) (oB k) (ii G k).enc ByteArray.empty (h.fs.at_ k J));have aR:=eD (λb c aj (hr:Rd b (some (eJ c 0)) (jl (ii G k).enc))=>G6 (some (eJ c 0)) aj (ii G k) b hr K.ok K.enc K.vq K.right);have ak:=h.rg.UK (by omega);have bq:=eD ak.1;have aS:=eD (λb m BA r (o:eF w b) (O:yh b m BA r (ii G k).gC)=>MP B s.sp s.rs s.rv m BA r (ii G k).gC b (h.mem.ext o).vH O h.rg.wf ak.1 ak.2 (eY h.mem.size o.size));have br:=eD (λal {w5 w6 w9:eI} {m:Im}=>h.more (w5:=w5) (w6:=w6) (w9:=w9) (m:=m) J al bo);have n:=eD h.mem;have bs:=eD K.enc;have HB:=eD h.mem.size;clear h aL aM aK ha ak K;have bR:=λbt:eI=>by simpa using xt 0 (by omega) bt
 go_in;go_wp
 refine(aN _ (eF.refl _)).mono ?_;rintro e A ⟨⟨D,O,W,_,rfl⟩|⟨bu,rfl⟩,X⟩
 ·have HF:Hid (xv w G N B p s ex stk k (fH (ij #[eE (s.os[D].id:Nat),fz false,eE 0])) A):=eD (.inl ⟨D,O,bp _ (eU O) W,rfl,X⟩);clear W X;generalize s.os[D].id=bv at*;go_wp2;go_ret3
  exact HF
 ·have aw:=eD X;have u:=X.eH n.eH;have c2:=λa:KW [p] A=>a.cell (u.ce 2 (fw s.fp)) (by simp);have c3:=λa:KW [p] A=>a.cell (u.ce 3 (eW)) (by simp);have c4:=λa:KW [p] A=>a.cell (u.ce 4 (eW)) (by simp);have c6:=λa:KW [p] A=>a.cell (u.ce 6 (.slice s.oA s.os.length s.oc)) (by simp);have Q:=λa:KW [p] A=>a.cell (u.ce 8 (eE (s.last:Nat))) (by simp);clear X u bu aN;go_wp2;refine rx [p] [0,1,2,3,4,5,6,7,8,9,10] [] (.e [11] (.q [12,13,14,15,16,17,18] .done)) ?_;repeat(go_big_quiet_step (fail))
  refine eO ?_;clear c2 c3 c4 c6 Q;refine eT ?_;go_wp
  refine(aP _ (aw.trans (eF.drew A))).mono ?_;rintro e w2 ⟨rfl,aT⟩;have am:=eD ((aw.trans (eF.drew A)).trans aT);clear aT aP aw;go_wp2;refine iH ?_;refine fj ?_;repeat(go_big_quiet_step (fail))
  refine eO ?_;refine fP ?_;go_wp
  refine(aO _ am).mono ?_;rintro e w3 ⟨⟨D,O,W,_,rfl⟩|⟨al,rfl⟩,an⟩
  ·have HF:Hid (xv w G N B p s ex stk k (fH (ij #[eE (s.os[D].id:Nat),fz false,eE 0])) w3):=eD (.inl ⟨D,O,by have:=xL W;unfold oB at this;omega,rfl,am.trans an⟩);clear W an;generalize s.os[D].id=bv at*;go_wp2;go_ret3
   exact HF
  ·have aU:Hid (∀l∈s.os,l.fQ≠k):=eD (λl ho e=>by have:=of_decide_eq_false (al l ho);rw[e] at this;exact this rfl);have ao:=eD (am.trans an);have c2:=ao.cell (n.eH.ce 2 (fw s.fp));clear al an aO am;go_wp21
   refine(aQ _ ao).mono ?_;rintro e w4 ⟨gr,cr,rfl,aV,aW⟩;have ax:=eD (ao.trans aW);have aX:=eD aV;clear aV aW c2 aQ ao;go_wp21
   refine(aR _ _ _ aX).mono ?_;rintro e w5 ⟨m,rfl,io,aY⟩;have aZ:=eD (ax.trans aY);have a0:=eD (io.mono ax.size);have bw:Hid (Value.slice m.rh.A m.rh.n m.rh.c=Value.slice m.rh.A 0 m.rh.c):=eD (by rw[io.Sk]);have bx:=eD io.UA;clear io aY aR aX ax;have E:=eQ.new w5 174 rp;go_wp2_with (refine eG rfl 174 (.tmp 19) (.tmp 72) rfl w5 rfl m.eL rfl E (λa F=>qu [m] a (by rw[x6];exact F)) (by rw[vM];exact qB) (by rfl) ?_)
   intro w6 Y g6;have ay:=(fi.grown g6).ext (eF.alloc _ _);have ap:=eD (aZ.trans ay);have a1:=eD (a0.ext ay);generalize w5.heap.size=H at*;clear g6 ay E a0 aZ;have c6:=ap.cell (n.eH.ce 6 (.slice s.oA s.os.length s.oc));have bS:¬((64:Int)<=(s.os.length:Int)):=by omega
   go_wp2;clear c6;have u:=ap.eH n.eH;go_cut [20] (λbz wx=>∃c x r,bz=fw c/\w6.heap.size<=c/\eQ wx c 177 (sd (s.last+1) k m 0 x r).eL.toArray/\eF w6 wx)
   case first=>as_aux_lemma=>
    have Z:Hid (∀b,(∃a:EW w6,b=a.w)->(loadVar 174 (eJ H 0)).run prog b=.ok (fV m.eL.toArray) b):=eD (λb ⟨a,F⟩=>by subst F;exact oD (a.ext.eH Y));have e8:=u.ew 8 (eE (s.last:Nat)) rfl;have bA:∀a:EW w6,a.w.cell? ⟨H,10,none⟩=some (.slice m.rh.A 0 m.rh.c):=λa=>by rw[<-bw.out];exact a.cell (Y.cell 10 rfl)
    clear Y u;refine iW [0,1,2,3,4,5,6,7,8,9,10] [11,13] (.jG (.e [11] (.q [12] (.e [13] (.e [14] .done)))) (.e [13] (.e [11] (.q [12] (.e [14] .done))))) ?_;iterate 7 (go_big_quiet_step (fail))
    refine fR rfl 174 (.tmp 19) rfl _ _ rfl Z (by simp[Act.put];rfl) ?_;repeat(go_big_quiet_step (fail))
    refine eO ?_;clear e8 bA Z;have az:=eD (eF.drew w6);generalize World.drew w6=I at*;have a2:Hid (∀v c d x r,eF w6 v->w6.heap.size<=c->c<v.heap.size->v.grownBy d (some c)->eQ d c 177 (sd (s.last+1) k m 0 x r).eL.toArray->∃g' bB bC,Value.pointer (some ⟨c,0,none⟩)=.pointer (some ⟨g',0,none⟩)/\w6.heap.size<=g'/\eQ d g' 177 (sd (s.last+1) k m 0 bB bC).eL.toArray/\eF w6 d):=
     eD (λv c d x r o hg _ bD g=>⟨c,x,r,rfl,hg,g,(fi.grown bD).ext o⟩)
    refine fX ?_ ?_
    ·refine eZ ?_;go_wp
     have aA:=eD (az.trans (eF.alloc I (eN (jY 0 []) 4)));generalize I.alloc (eN (jY 0 []) 4)=v7 at*;generalize I.heap.size=bg at*;refine⟨⟨⟨_,aA.out⟩,rfl⟩, ?_⟩;refine fj ?_;refine tq rfl 177 _ rfl #[(0,eE ((s.last:Int)+1)),(1,eV (fI (ff (qK k)))),(2,eE (oB k)),(3,fV m.eL.toArray),(12,fN bg 0 0)] (by simp[go_sem]) _ (λw=>EY s.last k m (some (eJ bg 0)) 0 w) (by simp[Act.put];rfl) ?_;refine eO ?_;refine eZ ?_;go_wp
     have E:=eQ.new v7 177 KM;have ad:=eD (aA.out.trans (eF.alloc v7 (eN KM 177)));refine⟨⟨⟨_,ad.out⟩,rfl⟩, ?_⟩;refine eT ?_;go_wp2_with (refine eG rfl 177 (.tmp 20) (.tmp 95) rfl v7 rfl (sd (s.last+1) k m 0 (some (eJ bg 0)) 0).eL rfl E (j4 _) (by rw[gx];exact iR) (by rw[gx];rfl) ?_)
     intro d b7 g7;have hf:=a2.out _ _ d _ _ ad.out aA.out.size E.lt g7 b7;refine iH ?_;refine fP ?_;go_wp
     go_meet;exact hf
    ·refine eZ ?_;go_wp
     have E:=eQ.new I 177 KM;have ad:=eD (az.trans (eF.alloc I (eN KM 177)));generalize I.alloc (eN KM 177)=v8 at*;have bE:=eD az.size;generalize I.heap.size=og at*;refine⟨⟨⟨_,ad.out⟩,rfl⟩, ?_⟩;refine eZ ?_;go_wp
     have a3:=eD (ad.out.trans (eF.alloc v8 (eN (jY 0 []) 4)));have a4:=E.alloc (eN (jY 0 []) 4);refine⟨⟨⟨_,a3.out⟩,rfl⟩, ?_⟩;refine fj ?_;refine tq rfl 177 _ rfl #[(0,eE ((s.last:Int)+1)),(1,eV (fI (ff (qK k)))),(2,eE (oB k)),(3,fV m.eL.toArray),(12,fN v8 0 0)] (by simp[go_sem]) _ (λw=>EY s.last k m (some (eJ v8 0)) 0 w) (by simp[Act.put];rfl) ?_;refine eO ?_;refine eT ?_;go_wp2_with (refine eG rfl 177 (.tmp 20) (.tmp 95) rfl og rfl (sd (s.last+1) k m 0 (some (eJ v8 0)) 0).eL rfl a4 (j4 _) (by rw[gx];exact iR) (by rw[gx];rfl) ?_)
     intro d b7 g7;have hf:=a2.out _ _ d _ _ a3.out bE.out a4.lt g7 b7;refine iH ?_;refine fP ?_;go_wp
     go_meet;exact hf
   case rest=>as_aux_lemma=>
    obtain⟨c,x,r,rfl,hg,a5,ae⟩:=hcut;obtain⟨d,rfl⟩:∃d,d=wc:=⟨wc,rfl⟩;obtain⟨a6,_⟩:=a1.TB bs;obtain⟨BA,bF,a7⟩:=a6.zM;have R:=eD (ap.trans ae);have a8:=eD (aS d.drew m BA bF (R.trans (eF.drew d)) ((a7.ext ae).ext (eF.drew d)));have aB:=ae.eH Y;have a9:=eD (aB);have a':=eD a5;have HG:=eD (eY ap.size hg);have bb:=R.eH n.eH;have e0:∀a:KW [p,H] d,a.w.cell? (eJ p 0)=some (fw s.sp):=λa=>a.cell (bb.cell 0 rfl) (by simp);have Z:Hid (∀b,(∃a:KW [p,H] d,b=a.w)->(loadVar 174 (eJ H 0)).run prog b=.ok (fV m.eL.toArray) b):=eD (λb ⟨a,F⟩=>by subst F;exact oD (a.eH aB (by simp)));clear a6 a7 aB a5 bb u hg Y aS;go_wp
    refine rx [p,H] [0,1,2,3,4] [] (.e [5] (.q [6,7,8,9] (.e [10] (.q [11] .done)))) ?_;iterate 4 (go_big_quiet_step (fail))
    refine fR rfl 174 (.tmp 19) rfl _ _ rfl Z (by simp[Act.put];rfl) ?_;refine eO ?_;clear e0 Z;refine eT ?_;go_wp
    refine a8.mono ?_;rintro e C ⟨rfl,rg,rc,rv,s8,Q⟩;have bT:=eY HB R.size;have aq:CH B jr [] d C:=CH.fk (CH.fg (eF.drew d)) Q;have aC:=eD (aq.eH a');have aD:=eD (aq.eH a9);have bG:=eD s8;have S:=eD aq;have ar:=eD R.out;have bH:Hid (∀f i,eQ w f 177 i->eQ C f 177 i):=eD (λf i g=>S.eH (ar.eH g));have bI:=eD ae;clear a8 a' a9 s8 Q aq ae;generalize bU:iq 64 s.rs 4096=t at*;have T:=aC.out;have f18:=T.frozen 18;have bJ:=T.ce 18 (eE 0);go_wp2;refine iH ?_;refine fj ?_;repeat(go_big_quiet_step (fail))
    refine eO ?_;refine eT ?_;go_wp
    rw[m8];have bc:H≠c:=λe=>by
     have j:=aD.out;have U:=aC.out;rw[e] at j;unfold eQ at j U;rw[U] at j;injection j with j
     injection j with _ h3
     exact absurd h3 (by decide)
    have bd:=T.set 18 (eE t);have be:=eD (aD.ub (p:=(eJ c 18)) bc (eE t));have bf:Hid (CH B [97,177] [] C (C.setCell (eJ c 18) (eE t))):=eD (CH.set T (eY HB HG) (by decide) 18 _);have bh:=(CH.set (L:=[177]) (M:=[]) T (eX _) (by decide) 18 (eE t)).eH (S.eH (R.eH n.eH));have bi:(C.setCell (eJ c 18) (eE t)).ownsRow B 177 27 (.slice s.oA s.os.length s.oc) s.os.length (la s.os):=(CH.uq (B:=w.heap.size) (L:=[]) (M:=[c]) HG (by simp)).own (S.own (R.own n.row)) (by simp) (λq hq hm=>by have:=(n.row.lt q hq).2;simp only[fF] at hm;have:=HG.out;omega)
    have bj:Hid (eQ (C.setCell (eJ c 18) (eE t)) c 177 (sd (s.last+1) k m t x r).eL.toArray):=eD bd;have af:=eD bh;have bk:=eD bi;have bK:Hid (∀f i,eQ w f 177 i->eQ (C.setCell (eJ c 18) (eE t)) f 177 i):=eD (λf i g=>(bH.out f i g).ub (λe=>by have j:=g.lt;have U:=HG.out;simp only at e;omega) _);clear f18 bJ T aC aD bc bd bh bi;generalize C.setCell (eJ c 18) (eE t)=w9 at*;have bL:=be.cell 14 (v:=eE 0) (by simp[Im.eL,bx.out]);have Q:=af.ce 8 (eE (s.last:Nat));have f8:=af.frozen 8;refine fj ?_;repeat(go_big_quiet_step (fail))
    refine eO ?_;refine fP ?_;go_wp
    have bl:=af.set 8 (eE ((s.last:Int)+1));have ag:CH B [97] [] w9 (w9.setCell (eJ p 8) (eE ((s.last:Int)+1))):=CH.set af n.low (by decide) 8 _;have ah:=eD bl;have au:=eD (ag.eH bj);have aE:=eD (ag.own bk);have aF:=eD (bf.fk (ag.mono (by decide) (λ_ hm=>hm)));have bM:Hid (∀f i,eQ w f 177 i->eQ (w9.setCell (eJ p 8) (eE ((s.last:Int)+1))) f 177 i):=eD (λf i g=>ag.eH (bK f i g));clear bl ag bL Q f8 be bj af bk bf;generalize w9.setCell (eJ p 8) (eE ((s.last:Int)+1))=V at*;generalize hO:sd (s.last+1) k m t x r=l at*;have HO:=eD hO;clear hO;have e6:∀a:KW [p,c] V,a.w.cell? (eJ p 6)=some (.slice s.oA s.os.length s.oc):=λa=>a.cell (ah.cell 6 rfl) (by simp);have bm:Hid (∀b,(∃a:KW [p,c] V,b=a.w)->(loadVar 177 (eJ c 0)).run prog b=.ok (xd l) b):=eD (λb ⟨a,F⟩=>by subst F;exact(a.eH au (by simp)).fK (P:=prog) 177 _ underlying177 rfl (by rw[gx];exact iR))
    refine om [0,1,2,3,4,5] [6,7,8,9,10] 2 (λb=>∃a:KW [p,c] V,b=a.w) (by kernel_rfl) (by kernel_rfl) (by decide) (by simp[gj];rfl) (by simp[gj];first|rfl|exact⟨rfl,rfl⟩) ⟨⟨World.drew V,λ_ _=>rfl⟩,rfl⟩ ?_;iterate 5 (go_big_quiet_step (fail))
    refine fR rfl 177 (.tmp 20) rfl _ _ rfl bm (by simp[Act.put];rfl) ?_;refine eO ?_;clear e6 bm;have y:=eD (eF.drew V);generalize World.drew V=bN at*;refine gH ?_;refine ng rfl 95 177 1 _ rfl [l.eL] 27 (by simp[go_sem,xd]) rfl underlying95 (by kernel_rfl) (by intro bV hl;simp only[fF] at hl;subst hl;rfl) (by decide) ?_;have e1:([l.eL].flatMap id)=l.eL:=by simp
    rw[e1];go_wp2;have aG:=y.trans (eF.alloc bN (eN l.eL.toArray 177));have aH:=eD (aG.eH ah);have aI:=eD (aG.eH au);refine⟨⟨⟨_,λf g=> ?_⟩,rfl⟩, ?_⟩
    ·simp only[fm,gp,gq] at g;rcases g with rfl|rfl
     ·exact aH.trans ah.symm
     ·exact aI.trans au.symm
    refine gH ?_;have bO:=eY HB (eY ar.size (eY S.size (eY aF.size y.size)));go_wp2_with (at_builtin;go_loud(refine Bb rfl _ _ rfl (y.own aE) bO rfl l.eL rfl (gx _) (j4 _) (by omega) ?_))
    intro v3 ai o3 g3 k3;obtain⟨A',c',rfl⟩:=eR o3;have z:=(fi.grown g3).eH aH (λh=>oS (y.own aE) (y.eH ah) (by decide) h.symm);have av:eQ ai c 177 l.eL.toArray:=(fi.grown g3).eH aI (λh=>by have:=(n.row.lt c h.symm).2;have:=HG.out;omega)
    go_wp
    refine⟨⟨⟨ai,λf g=> ?_⟩,rfl⟩, ?_⟩
    ·simp only[fm,gp,gq] at g;rcases g with rfl|rfl
     ·exact z.trans ah.symm
     ·exact av.trans au.symm
    refine jm ?_;have aJ:gG (ai.setCell (eJ p 6) (.slice A' (s.os.length+1) c')) G N B p (s.more (yi s.rs t rg rc (ii G k).gC) rv A' c' (sd (s.last+1) k m t x r)) (ex++oX m (ii G k)) stk/\CH B jz [] w (ai.setCell (eJ p 6) (.slice A' (s.os.length+1) c')):=by
     refine br aU ar ((a1.ext bI)) rfl bG S ?_ ?_ ?_
     ·exact(((aF.ext (y.trans (eF.alloc _ _)))).fk (CH.grown g3 ((y.trans (eF.alloc _ _)).own aE) (by decide))).fk (CH.set z n.low (by decide) 6 _)
     ·have:=z.set 6 (.slice A' (s.os.length+1) c');simpa[LS.cells] using this
     ·rw[HO];exact(CH.set (L:=[97]) (M:=[]) z (eX _) (by decide) 6 _).own o3
    have bP:Hid (xv w G N B p s ex stk k (fH (ij #[eE ((s.last+1:Nat):Int),fz true,eE 0])) (ai.setCell (eJ p 6) (.slice A' (s.os.length+1) c'))):=eD (.inr ⟨aU.out,rfl,_,_,_,_,_,_,_,_,aJ.1,aJ.2,by have:=bq.out;omega,λf i g bn=>(CH.set (B:=0) (L:=[97]) (M:=[]) z (eX _) (by decide) 6 _).eH ((fi.grown g3).eH (((y.eH (bM.out f i g))).alloc _) (λh=>bn (EZ n.row h.symm))) (by decide) (by simp),λf g=>by
     rcases k3 f (by rw[g];rfl) with h|h
     ·exact .inl (EZ n.row h)
     ·exact .inr (eY (eY ar.size (eY S.size (eY aF.size y.size))) h)⟩)
    have c6:=z.ce 6 (.slice s.oA s.os.length s.oc);have f6:=z.frozen 6;have bn:c≠p:=λe=>by
     have j:=av;have U:=z;rw[e] at j;unfold eQ at j U;rw[U] at j;injection j with j
     injection j with _ h3
     exact absurd h3 (by decide)
    have cg:=av.cell 0 (v:=eE ((s.last+1:Nat):Int)) (by rw[<-HO];rfl);clear aJ z av o3 g3 k3 aG aH aI;go_wp
    go_ret3
    exact bP
end
end
section
theorem hQ{b:Obj}{c:Option Nat}(a:(w.alloc b).grownBy v c):w.grownBy v c:=
 ⟨a.os,a.tape,a.output,eY (eF.alloc w b).size a.size,λd f g=>(a.block d (nX f (eF.alloc w b).size) g).trans ((eF.alloc w b).below.block d f)⟩
theorem pe(a:LS){b:Nat}(c:b<a.os.length)(o':OV):(a.jg (a.os.set b o')).rows=(a.mz::a.nD::(a.os.take b).flatMap OV.rows)++(o'.nf::o'.m6::(a.os.drop (b+1)).flatMap OV.rows):=by
 have e:a.os.set b o'=a.os.take b++o'::a.os.drop (b+1):=by rw[List.set_eq_take_append_cons_drop,fW c]
 simp only[LS.rows,LS.jg,LS.re,e,zX,oz,nO,iK];rfl
theorem nu(a:LS){b:Nat}(c:b<a.os.length):a.rows=(a.mz::a.nD::(a.os.take b).flatMap OV.rows)++(a.os[b].nf::a.os[b].m6::(a.os.drop (b+1)).flatMap OV.rows):=by have:=pe a c a.os[b];rwa [Bw] at this
def OV.h'(o:OV)(A:fE)(c x:Nat):OV:={o with nA:=A,nc:=c,eP:=o.eP++[x]}
def OV.ms(o:OV)(A:fE)(c:Nat)(l:fe):OV:={o with gA:=A,gc:=c,group:=l}
section
variable {w:eI} {G:Nat->fe} {N B p:Nat} {s:LS} {ex:List (eS×fS)} {stk:fS}
theorem IW(h:it w B p s ex){a:Nat}(o:a<s.os.length){c:Nat}(d:s.oA=some (eJ c 0)){b:eI}(f:CH B [3] [] w b){o':OV}{j:Nat}(r:j<27){u:eS}(t:o'.eL=(OV.eL s.os[a]).set j u){l:List (eS×fS)}(v:fo 0 b ((s.jg (s.os.set a o')).rows++l))(x:∀y∈iG (s.jg (s.os.set a o')).rows,B<=y):
 it (b.setCell (eJ c (a*27+j)) u) B p (s.jg (s.os.set a o')) l/\CH B lB [] w (b.setCell (eJ c (a*27+j)) u)/\zf w (b.setCell (eJ c (a*27+j)) u) s:=by
 have g:=f.own h.row;rw[d] at g;have m:=(g.stored (a*27+j) u).1;rw[m' gx s.os a j o r o' u t] at m;have n:CH B [177] [] b (b.setCell (eJ c (a*27+j)) u):=CH.pD g (by simp) _ _;have i:CH B [3,177] [] w (b.setCell (eJ c (a*27+j)) u):=(f.mono (by decide) (λ_ k=>k)).fk (n.mono (by decide) (λ_ k=>k));refine⟨h.km i (by decide) ?_ ?_ (v.ch n) x,i.fC (by decide),λC D z A=> ?_⟩
 ·have:=i.eH h.eH;simpa only[LS.cells,LS.re,nZ] using this
 ·rw[nZ,d];exact m
 ·exact(f.eH z).ub (λe=>A (by rw[d];simp only at e;rw[e])) _
theorem zg{q:eS×fS}(h:it w B p s (q::ex)){d:eI}{g:eS}{i:fS}(k:d.ownsRow 0 3 1 g i (ints i))(j:w.grownBy d q.1.ownBlock)(l:∀c,g.ownBlock=some c->q.1.ownBlock=some c\/w.heap.size<=c)(m:∀c,q.1.ownBlock=some c->B<=c):
 it d B p s ((g,i)::ex)/\CH B [3] [] w d:=by have n:=qE (h.ints.mem (gT _ (gM ..))) m;have f:CH B [3] [] w d:=CH.grown j n (by simp);have o:=h.ints.swap (a:=s.rows) (b:=ex) (v:=q.1) (xs:=q.2) k j l;have e:s.re s.oA s.oc s.os s.sA s.sc s.scope s.last s.inits s.lA s.lc s.gF=s:=rfl;refine⟨?_,f⟩;rw[<-e];exact h.km f (by decide) (f.eH h.eH) (f.own h.row) o h.ku
structure oL(w:eI)(G:Nat->fe)(N B p:Nat)(s:LS)(q:eS×fS)(ex F:List (eS×fS))(stk:fS):Prop where
 ok:gG w G N B p s (q::ex) stk
 low:∀k,q.1.ownBlock=some k->B<=k
 im:∀o∈s.os,lW o.im (ii G o.fQ) F
 sub:∀r∈F,r∈ex
variable {q:eS×fS} {F:List (eS×fS)}
theorem oL.ext(h:oL w G N B p s q ex F stk){w':eI}(a:eF w w'):oL w' G N B p s q ex F stk:=⟨h.ok.ext a,h.low,h.im,h.sub⟩
theorem oL.re(h:oL w G N B p s q ex F stk){b:eI}{c:eS×fS}{d:List (eS×fS)}(l:it b B p s (c::d)){L:mB}{B0:Nat}(m:CH B0 L [] w b)(n:∀o∈L,o∈jz)(r:∀k,c.1.ownBlock=some k->B<=k)(g:∀f∈F,f∈d):oL b G N B p s c d F stk:=
 have t:∀u∈s.os,Cl b G N s.last (c::d) u:=λi j=>
  have a:=(h.ok.each i j).ch m n
  ⟨a.fQ,a.im,a.tZ,(h.im i j).mono (λf v=>gD _ (g f v)),a.id,a.iO,a.ms⟩
 ⟨{h.ok with mem:=l,each:=t},r,h.im,g⟩
theorem oL.swap(h:oL w G N B p s q ex F stk){a:eI}{v':eS}{xs':fS}(b:a.ownsRow B 3 1 v' xs' (ints xs'))(d:w.grownBy a q.1.ownBlock)(f:∀k,v'.ownBlock=some k->q.1.ownBlock=some k\/w.heap.size<=k):
 oL a G N B p s (v',xs') ex F stk/\CH B [3] [] w a:=by obtain⟨g,c⟩:=zg h.ok.mem (fq b (eX _)) d f h.low;exact⟨h.re g c (by decide) (λk i=>(b.lt k i).1) h.sub,c⟩
theorem it.UN(h:it w B p s ex){a:List (eS×fS)}(b:fo 0 w (s.rows++a)):it w B p s a:=⟨h.eH,h.low,h.vH,h.rT,h.qb,h.row,b,h.ku⟩
theorem oL.CJ(h:oL w G N B p s q ex F stk){a:eS×fS}{b:List (eS×fS)}(d:(q::ex).Perm (a::b))(f:∀c,a.1.ownBlock=some c->B<=c)(g:∀i∈F,i∈b):oL w G N B p s a b F stk:=
 h.re (h.ok.mem.UN (h.ok.mem.ints.iU (Rj _ d))) (CH.refl 0 [] [] _) (by simp) f g
theorem oL.drop{a:eS×fS}(h:oL w G N B p s q (a::ex) F stk)(b:∀r∈F,r∈ex):oL w G N B p s q ex F stk:=
 h.re (h.ok.mem.UN (h.ok.mem.ints.sub (List.Sublist.append_left (List.Sublist.cons₂ _ (tm _ _)) _))) (CH.refl 0 [] [] _) (by simp) h.low b
theorem gG.Vx(h:gG w G N B p s ex stk)(f:∀b∈s.os,lW b.im (ii G b.fQ) F)(g:∀d∈F,d∈ex):oL w G N B p s (eW,[]) ex F stk:=by
 have c:fo 0 w (s.rows++((Value.slice none 0 0,[])::ex)):=.of (λp hp=>by
  rcases gu.1 hp with hp|hp
  ·exact h.mem.ints.mem (iL _ hp)
  ·rcases fm.1 hp with rfl|hp
   ·exact ji _ _ _ _
   ·exact h.mem.ints.mem (gT _ hp)) (by
  have:=h.mem.ints.nodup;rw[jC] at this ⊢;simpa[iG,Value.ownBlock] using this)
 have i:∀b∈s.os,Cl w G N s.last ((eW,[])::ex) b:=λj k=>
  have a:=h.each j k
  ⟨a.fQ,a.im,a.tZ,a.rows.mono (λd c=>gD _ c),a.id,a.iO,a.ms⟩
 exact⟨{h with mem:=h.mem.UN c,each:=i},λm l=>by simp[Value.ownBlock] at l,f,g⟩
theorem oL.TF(h:oL w G N B p s q ex F stk):oL w G N B p s (eW,[]) (q::ex) F stk:=h.ok.Vx h.im (λa b=>gD _ (h.sub a b))
theorem E0(s:LS)(d:(s.os.map OV.id).Nodup){i:Nat}(f:i<s.os.length)(A:fE)(c x:Nat):(s.jg (s.os.set i (s.os[i].h' A c x))).gd=f' s.os[i].id x s.gd:=by
 simp only[LS.gd];refine Ci (by simp[f']) λj g k=> ?_;have b:j<s.os.length:=by simpa using g
 rw[nC k (by simpa using b)];simp only[jy,tk];by_cases a:i=j
 ·subst a;simp[OV.h',OV.ob]
 ·have l:s.os[j].ob.id≠s.os[i].id:=λe=>a (fZ d (i:=i) (j:=j) (by simpa using f) (by simpa using b) (by simpa[OV.ob] using e.symm));rw[fG a,fG l]
theorem gG.h'(h:gG w G N B p s ex stk){i:Nat}(d:i<s.os.length)(T:s.os[i].eP.length<8){x:Nat}(F:∃q∈s.os,q.id=x){g:Nat}(H:s.oA=some (eJ g 0)){w7:eI}{A:fE}{c:Nat}(r:w7.ownsRow B 3 1 (.slice A (s.os[i].eP.length+1) c) (s.os[i].eP.length+1) (ints (eM (s.os[i].eP++[x]))))(t:w.grownBy w7 s.os[i].nf.1.ownBlock)(I:∀k,(Value.slice A (s.os[i].eP.length+1) c).ownBlock=some k->s.os[i].nf.1.ownBlock=some k\/w.heap.size<=k):
 gG (w7.setCell (eJ g (i*27+22)) (.slice A (s.os[i].eP.length+1) c)) G N B p (s.jg (s.os.set i (s.os[i].h' A c x))) ex stk/\CH B jz [] w (w7.setCell (eJ g (i*27+22)) (.slice A (s.os[i].eP.length+1) c))/\zf w (w7.setCell (eJ g (i*27+22)) (.slice A (s.os[i].eP.length+1) c)) s:=by
 have J:∀k,s.os[i].nf.1.ownBlock=some k->B<=k:=λk l=>h.mem.ku k (by rw[nu s d];exact fu.2 ⟨_,gT _ (gM ..),l⟩);have K:=qE (h.mem.ints.mem (iL _ (by rw[nu s d];exact gT _ (gM ..)))) J;have L:CH B [3] [] w w7:=CH.grown t K (by simp);have M:fo 0 w7 ((s.jg (s.os.set i (s.os[i].h' A c x))).rows++ex):=by
  have y:=h.mem.ints;rw[nu s d,iK] at y;have m:=y.swap (v:=s.os[i].nf.1) (xs:=s.os[i].nf.2) (v':=.slice A (s.os[i].eP.length+1) c) (xs':=eM (s.os[i].eP++[x])) (by have:=fq r (eX B);simpa[fv] using this) t I
  rw[pe s d,iK];simpa[OV.h',OV.nf,OV.m6] using m
 obtain⟨O,m,P⟩:=IW h.mem d H L (o':=s.os[i].h' A c x) (j:=22) (by omega) (u:=.slice A (s.os[i].eP.length+1) c) (by simp[OV.eL,OV.h']) M (λk l=>by
  rw[pe s d] at l;obtain⟨q,Q,z⟩:=fu.1 l;have n:q∈s.rows->B<=k:=λhm=>h.mem.ku k (fu.2 ⟨q,hm,z⟩);rw[nu s d] at n;rcases gu.1 Q with hm|hm
  ·exact n (iL _ hm)
  ·rcases fm.1 hm with rfl|hm
   ·exact(r.lt k (by simpa[OV.h',OV.nf] using z)).1
   ·rcases fm.1 hm with rfl|hm
    ·exact n (gT _ (gD _ (gM ..)))
    ·exact n (gT _ (gD _ (gD _ hm))))
 have R:(s.os.set i (s.os[i].h' A c x)).map OV.st=s.os.map OV.st:=by
  rw[qQ];have:OV.st (s.os[i].h' A c x)=(s.os.map OV.st)[i]'(by simpa using d):=by simp[OV.st,OV.h']
  rw[this,Bw]
 have C:∀b∈s.os.set i (s.os[i].h' A c x),b∈s.os\/b=s.os[i].h' A c x:=λb a=>qR a;refine⟨h.CJ O (λ_ hm=>hm) (m.fC lB.sub) R (λb a=> ?_) (λb a o f=> ?_) h.LX (λo f=> ?_) h.rg rfl rfl h.uI h.Nf h.iQ,m.fC lB.sub,P⟩
 ·rcases C b a with a|rfl
  ·exact⟨(h.each b a).iO,(h.each b a).ms⟩
  ·have:=(h.each _ (eU d)).ms;simp only[OV.h',fT,ti];exact⟨by omega,this⟩
 ·rcases C b a with a|rfl
  ·exact h.Gy b a o f
  ·simp only[OV.h',gu,fF] at f;rcases f with f|rfl
   ·exact h.Gy _ (eU d) o f
   ·exact F
 ·obtain⟨b,a,D,E⟩:=h.J6 o f;obtain⟨j,S,rfl⟩:=gN a;refine⟨(s.os.set i (s.os[i].h' A c x))[j]'(by simpa using S),eU _, ?_⟩;rw[tk];split
  ·rename_i e;subst e;exact⟨D,E⟩
  ·exact⟨D,E⟩
end
end
section
structure pf(s s':LS):Prop where
 scope:s'.scope=s.scope
 inits:s'.inits=s.inits
 gF:s'.gF=s.gF
 tl:s'.tl=s.tl
 fn:s'.fn=s.fn
 fl:s'.fl=s.fl
 D:s'.D=s.D
 fb:s'.fb=s.fb
 lh:(∀o∈s.os,o.lh=false)->∀o∈s'.os,o.lh=false
 OQ:(∀o∈s.os,o.base<=4294967296)->∀o∈s'.os,o.base<=4294967296
theorem pf.refl(s:LS):pf s s:=⟨rfl,rfl,rfl,rfl,rfl,rfl,rfl,rfl,λh=>h,λh=>h⟩
theorem pf.trans{a b c:LS}(h:pf a b)(k:pf b c):pf a c:=⟨k.scope.trans h.scope,k.inits.trans h.inits,k.gF.trans h.gF,k.tl.trans h.tl,k.fn.trans h.fn,k.fl.trans h.fl,k.D.trans h.D,k.fb.trans h.fb,λd=>k.lh (h.lh d),λd=>k.OQ (h.OQ d)⟩
def UR(s s':LS)(n:Nat):Prop:=∀b,s'.oA=some (eJ b 0)->s.oA=some (eJ b 0)\/n<=b
def VQ(w:eI)(G:Nat->fe)(N B p:Nat)(s:LS)(q:eS×fS)(ex F:List (eS×fS))(stk:fS)(k:Nat)(e:Ending)(w':eI):Prop:=
 ∃s2 ex2 tt fr,e=fH (ij #[eE ((tt:Nat):Int),fz fr,eE 0])/\oL w' G N B p s2 q (ex++ex2) (F++ex2) stk/\CH B jz [] w w'/\zf w w' s/\UR s s2 w.heap.size/\mf (s.gd,s.last) k=((s2.gd,s2.last),tt,fr)/\pf s s2/\s2.last<=s.last+1/\(∀(i:Nat) o,s.os[i]? =some o->s2.os[i]? =some o)/\∃q∈s2.os,q.id=tt
section
variable {w:eI} {G:Nat->fe} {N B p:Nat} {s:LS} {ex:List (eS×fS)} {stk:fS}
theorem CR{C:List (eS×fS)}(h:∀a∈kB,a∈kC):∀a∈kB++C,a∈kC++C:=λa c=>(gu.1 c).elim (λb=>iL _ (h a b)) (λb=>gT _ b)
theorem SI{q:eS×fS}(h:oL w G N B p s q ex kB stk){k:Nat}(z:k<=N)(A:s.last<9990){r:jw}(C:vW k r)(or:jw)(c:Nat):Calls prog 256 #[fw p,eV r,eV or,.slice none 0 c] w (VQ w G N B p s q ex kB stk k):=by
 refine(Rq h.ok z A C or c).mono ?_;have D:=h.ok.qy;rintro e O (⟨f,t,u,rfl,g⟩|⟨i,rfl,P,Q,R,S,j,v,x,y,ok,E,F,H,I⟩)
 ·refine⟨s,[],s.os[f].id,false,rfl,by rw[ox,ox];exact h.ext g,CH.fg g,zf.ext g,λT J=>.inl J, ?_,pf.refl s,tj _,λ_ _ h=>h,_,eU t,rfl⟩;have d:s.os[f].ob∈s.gd:=fy.2 ⟨_,eU t,rfl⟩;rcases p8 (l:=s.gd) (k:=k) with⟨b,a,m,n⟩|⟨_,i⟩
  ·have:b=s.os[f].ob:=xx D m d (n.trans u.symm);subst this;simp only[mf,a];rfl
  ·exact absurd (fy.2 ⟨_,d,u⟩) i
 ·refine⟨_,oX j (ii G k),s.last+1,true,rfl,⟨ok,h.low,λb a=> ?_,CR h.sub⟩,E,H,I, ?_,⟨rfl,rfl,rfl,rfl,rfl,rfl,rfl,rfl,λh b a=>(gu.1 a).elim (h b) λo=>by rw[fF.1 o];rfl,λh b a=>(gu.1 a).elim (h b) λo=>by rw[fF.1 o];exact F⟩,fJ _,λf b a=> ?_,sd (s.last+1) k j v x y,gT _ (fF.2 rfl),rfl⟩
  ·rcases gu.1 a with a|a
   ·exact(h.im b a).mono (λ_ d=>iL _ d)
   ·obtain rfl:=fF.1 a;exact λ_ d=>gT _ d
  ·rcases p8 (l:=s.gd) (k:=k) with⟨b,_,m,n⟩|⟨K,_⟩
   ·obtain⟨L,M,rfl⟩:=fy.1 m;exact absurd n (i L M)
   ·simp only[mf,K];simp[LS.gd,sd,OV.ob]
  ·show(s.os++[sd (s.last+1) k j v x y])[f]? =some b;rw[qp (jS.1 a).1];exact a
theorem zm{t0:OS}{id:Nat}{k:Nat}{t:OS}(h:(r.take k).foldl (jc id) (t0,[])=(t,R)):R.length<=k:=by
 have d:∀(a:fe) (s:OS×fe),(a.foldl (jc id) s).2.length<=s.2.length+a.length:=by
  intro a;induction a with
  |nil=>intro s;simp
  |cons c a f=>
   intro s;have b:=f (jc id s c);have g:(jc id s c).2.length<=s.2.length+1:=by simp only[jc];split<;>simp
   simp only[nK,iw] at*;omega
 have b:=d (r.take k) (t0,[]);rw[h] at b;simp at b;omega
structure VR(w0 w:eI)(G:Nat->fe)(N B p:Nat)(s0:LS)(ex0 F:List (eS×fS))(stk:fS)(i id ob:Nat)(cs:kx)(ks:fe)(k:Nat)(v:eS)(s:LS)(news:fe)(ex:List (eS×fS)):Prop where
 x:oL w G N B p s (v,eM news) (ex0++ex) (F++ex) stk
 ch:CH B jz [] w0 w
 VS:eQ w ob 177 cs
 oA:s.oA≠some (eJ ob 0)
 f:(ks.take k).foldl (jc id) ((s0.gd,s0.last),[])=((s.gd,s.last),news)
 rest:pf s0 s
 last:s.last<=s0.last+k
 at_:∃o,s.os[i]? =some o/\o.id=id/\o.eP.length=k
def BH(w:eI)(G:Nat->fe)(N B p:Nat)(s:LS)(ex F:List (eS×fS))(stk:fS)(id:Nat)(ks:fe)(e:Ending)(w':eI):Prop:=
 ∃v s' news ex',e=fH (ij #[v,eE 0])/\oL w' G N B p s' (v,eM news) (ex++ex') (F++ex') stk/\CH B jz [] w w'/\nP (s.gd,s.last) id ks=((s'.gd,s'.last),news)/\pf s s'/\s'.last<=s.last+ks.length
theorem OT(a:OV)(b:a.im.c4=⟨none,0,a.im.c4.c⟩):(a.eL.toArray)[1]? =some (.string (fI (ff (qK a.fQ))))/\(a.eL.toArray)[6]? =some (.slice a.im.c3.A a.im.c3.n a.im.c3.c)/\(a.eL.toArray)[7]? =some (.slice none 0 a.im.c4.c):=⟨rfl,rfl,by show some (Value.slice a.im.c4.A a.im.c4.n a.im.c4.c)=_;rw[b]⟩
theorem La(h:oL w G N B p s (eW,[]) ex kB stk)(bi:G 0=[]){a:Nat}(S:a<s.os.length)(aF:s.os[a].eP=[])(bH:s.last<9900):Calls prog 257 #[fw p,eE (s.os[a].id:Nat)] w (BH w G N B p s ex kB stk s.os[a].id (G s.os[a].fQ)):=by
 have K:=h.ok.each _ (eU S);have aG:=(h.ok.fs.VH _ K.fQ).ok;have aH:(ii G s.os[a].fQ).ft=(G s.os[a].fQ).map nB:=by
  unfold ii;split
  ·rename_i e;rw[e,bi];rfl
  ·rfl
 have bj:∀x∈G s.os[a].fQ,1<=x/\x<=N:=λx b=>by have:=h.ok.up _ x b;omega
 have bI:=h.ok.g8 s.os[a].fQ;have aj:=K.im.h';have ad:=K.im.n3;rw[aH] at aj ad;rw[gW] at ad;have O:s.os[a].im.c4=⟨none,0,s.os[a].im.c4.c⟩:=by
  have E:=K.im.z4;have h2:=K.im.a4;cases e:s.os[a].im.c4 with
  |mk A bJ c=>rw[e] at E h2;simp only at E h2;rw[E,h2]
 obtain⟨g0,ak,bK,_,bk⟩:=h.ok.mem.at S;have ae:∀f (m:LS) q' j T,oL f G N B p m q' j T stk->(m.os.map OV.id).Nodup/\m.os.length<=1000:=λ_ _ _ _ _ b=>⟨by rw[<-jD];exact b.ok.ids,by have:=b.ok.iO;have:=b.ok.n12;omega⟩;have aI:=eD (λf (b:eF w f)=>uT (h.ok.mem.ext b) (ae _ _ _ _ _ h).2 (ae _ _ _ _ _ h).1 S rfl ak);obtain⟨b0,bL,al,bM,aJ,_⟩:=jW h.ok.mem.Kq S;rw[ak] at al;simp only[fd,ny,gP] at al;obtain⟨rfl,rfl⟩:=al;have am:=eD aJ;obtain⟨k1,k6,k7⟩:=OT s.os[a] O;have aK:Hid (∀u b1 F,eF w u->w.heap.size<=b1->eF u F->eQ F b1 177 s.os[a].eL.toArray->VR w F G N B p s ex kB stk a s.os[a].id b1 s.os[a].eL.toArray (G s.os[a].fQ) 0 (eW) s [] []):=eD (λu b1 F b hb U bl=>⟨by rw[ox,ox];exact h.ext (b.trans U),CH.fg (b.trans U),bl,λe=>by rw[ak] at e;simp only[fd,ny,gP] at e;omega,rfl,pf.refl s,fJ _,s.os[a],gg S,rfl,by rw[aF];rfl⟩)
 have bm:=eD aG;have bo:=eD aj;have bp:=eD ae;clear K aG aH aj O bk aJ h ae aF;generalize bq:s.os[a].fQ=lb at*;generalize G lb=n at*;generalize af:s.os[a].eL.toArray=C at*;generalize s.os[a].im.c4.c=rc at*;generalize br:s.os[a].im.c3.A=A3 at*;generalize s.os[a].im.c3.c=c3 at*;rw[ad] at k6;generalize gO:s.os[a].id=id at*;have aL:xd s.os[a]=fV C:=by unfold xd;rw[af]
 have aM:C.size=27:=by rw[<-af];rfl
 have HV:Hid (∀bs∈C.toList,bs.oneCell'=true):=eD (by rw[<-af];exact j4 _);rw[aL] at am;clear af aL bq ad br gO;go_in;go_wp
 refine(aI _ (eF.refl _)).mono ?_;rintro e u ⟨rfl,an⟩;have ao:=eD an;have aN:=eD (am u an);have bz:=eQ.new u 177 KM;clear an aI am;go_wp2_with (first|(refine eK rfl 177 (.tmp 19) rfl _ rfl (fV C) ?_ ?_)|(refine eG rfl 177 (.tmp 7) (.tmp 20) rfl u rfl C.toList rfl bz HV (by rw[Sd,aM];exact iR) (by rw[Sd,aM];rfl) ?_))
 ·have:=aN.out;simpa using this
 intro F b2 H;have U:=(fi.grown H).ext (eF.alloc _ _);have ap:eQ F u 177 C:=by simpa using b2
 have HI:=eD (aK u u F ao ao.size U ap);have d6:=ap.cell 6 k6;clear U H bz b2 aK ao aN ap;generalize u.heap.size=V at*;go_wp
 clear d6;go_loopw [6,25] (λv6 aq wr=>∃(k:Nat) (m:LS) (i:fe) (j:List (eS×fS)),k<=n.length/\aq=eE k/\VR w wr G N B p s ex kB stk a id V C n k v6 m i j) (λ_ aq _=>n.length- (intOf aq).toNat)
 case atStart=>exact⟨0,s,[],[],eX _,rfl,HI⟩
 case round=>as_aux_lemma=>
  obtain⟨k,m,i,j,hk,rfl,o⟩:=hrel;clear HI;by_cases ar:k<n.length
  ·obtain⟨bN,bO,hA,hb,d0,d1⟩:=xl (bo.ch o.ch).rd (k:=k) (by simpa using ar);subst hA;rw[jy] at d0;have aO:=bj _ (eU ar);have aP:Hid (∀au,(n.take k).foldl (jc id) ((s.gd,s.last),[])=au->(n.take (k+1)).foldl (jc id) ((s.gd,s.last),[])=jc id au n[k]):=eD (λau ht=>by rw[jR _ _ _ ar,ht]);generalize n[k]=kk at*;have bt:m.last<9990:=by have:=o.last;omega
   have aQ:=eD (λf (b:eF wr f) (or:jw)=>SI (o.x.ext b) aO.2 bt (.fQ aO.1) or rc);have v:=eD o;have aR:=o.VS;clear o;go_wp
   have ag:=eF.alloc wr (eN #[eV (fI (nB kk)),eW] 130);have bn:=eQ.new wr 130 #[eV (fI (nB kk)),eW];have W:=eD ag;have av:=eD (ag.eH aR);have aw:=eD bn;have bu:=eD (eF.size ag);generalize wr.alloc (eN #[eV (fI (nB kk)),eW] 130)=wn at*;have e1:=oO (av.cell 1 k1);have e7:=oO (av.cell 7 k7);have en:=aw.ew 0 (eV (fI (nB kk))) rfl;generalize wr.heap.size=nb at*;clear ag bn d0 d1 aR;refine iW [0,1,2,3,4,6,7,8] [5] (.e [5] (.e [9] (.q [10,11,12,13,14,15,16] .done))) ?_;repeat(go_big_quiet_step (fail))
   refine eO ?_;clear e1 e7 en;refine eZ ?_;go_wp
   refine(ER (qK lb) (World.drew wn) bm).mono ?_;rintro e w3 ⟨rfl,aS⟩;have I:=eD ((eF.drew wn).trans aS);clear aS;go_wp2;refine⟨⟨⟨w3,I⟩,rfl⟩, ?_⟩;refine eT ?_;go_wp
   refine(aQ _ (W.trans I) _).mono ?_;rintro e w4 ⟨d,P,r,fr,rfl,t,O,aT,aU,aV,aW,bv,aX,aY⟩;obtain⟨g,aZ,ax,ay⟩:=v.at_;have a0:=aX a g aZ;obtain⟨y,z⟩:=jS.1 a0;obtain⟨H,ah,bw,_,a1⟩:=t.ok.mem.at y;obtain⟨az,a2⟩:=bp _ _ _ _ _ t;have a3:=eD (uT t.ok.mem a2 az y (x:=id) (by rw[z];exact ax) ah);have d22:=a1 22 (.slice g.nA g.eP.length g.nc) (by rw[z];rfl);have f22:=λf (b:eF w4 f)=>((ah▸(t.ok.mem.ext b).row:f.ownsRow B 177 27 (fN H d.os.length d.oc) d.os.length (la d.os))).frozenAt (a*27+22);have a4:∀f,eF w4 f->f.ownsRow B 3 1 (.slice g.nA g.eP.length g.nc) g.eP.length (ints (eM g.eP)):=λf b=>by have E:=qE ((t.ok.mem.ext b).ints.mem (iL _ (by rw[nu d y];exact gT _ (gM ..)))) (λq hq=>t.ok.mem.ku q (by rw[nu d y];exact fu.2 ⟨_,gT _ (gM ..),hq⟩));simp only[OV.nf,fv,z] at E;exact E
   have aA:∀{f} {m:LS} {j T},oL f G N B p m (u6,eM i) j T stk->f.ownsRow B 3 1 u6 i.length (ints (eM i)):=λb=>by have:=qE (b.ok.mem.ints.mem (gT _ (gM ..))) b.low;simpa only[fv] using this
   obtain⟨nA,nc,rfl⟩:=eR (aA t);have bx:=eD (λf (m:LS) j T (b:oL f G N B p m (.slice nA i.length nc,eM i) j T stk)=>aA b);have aB:=eD (λf (b:eF w4 f) {w7:eI} {A:fE} {c:Nat}=>(t.ok.ext b).h' y (by rw[z,ay];omega) aY ah (w7:=w7) (A:=A) (c:=c));rw[z] at aB;have a5:=O.eH (I.eH aw);have c1:=a5.ce 1 (eW);have a6:=eD (aT V C ((W.trans I).eH v.VS) v.oA);have a7:Hid (d.oA≠some (eJ V 0)):=eD (λe=>by
    rcases aU V e with h|h
    ·exact v.oA h
    ·have E:=v.VS.lt;have h2:=(W.trans I).size;omega)
   have a8:=eD ((v.ch.ext (W.trans I)).fk O);have X:=eD t;have a9:Hid ((n.take (k+1)).foldl (jc id) ((s.gd,s.last),[])=((f' id r d.gd,d.last),if fr then i++[r] else i)):=eD (by rw[aP _ v.f];simp only[jc,aV]);have l:=eD (v.rest.trans aW);have a':Hid (d.last<=s.last+(k+1)):=eD (by have:=v.last;omega);have bA:=eD f22;have aC:=eD a4;have aD:=eD (E0 d az y);have bb:Hid (∀o',(d.os.set a o')[a]? =some o'):=eD (λo'=>by rw[xX y]);have bc:Hid (∀A c,∀D∈(d.jg (d.os.set a (g.h' A c r))).os,lW D.im (ii G D.fQ) ((kB++j)++P)):=eD (λA c D Y=>by
    rcases qR Y with h|h
    ·exact t.im D h
    ·rw[h];exact t.im g (z▸eU y))
   have bP:=zm v.f;rw[z] at aD;have bd:=eD ay;clear ay;clear aZ a0 bw a1 az a2 f22 a4 aA a5 t O aT aU aV aW bv aX aY v aQ aP W I av aw bu;go_wp2;refine iH ?_;refine fj ?_;repeat(go_big_quiet_step (fail))
   refine eO ?_;refine fP ?_;go_wp
   refine wp_loop_rounds 1 ?_;rw[rounds_succ];go_wp
   refine a3.mono ?_;rintro e w5 ⟨rfl,aE⟩;have J:=eD aE;have bB:=aE.cell d22;clear d22 c1 a3 aE;have bC:=eY X.ok.mem.size J.size;go_wp2_with (at_builtin;go_loud(refine jQ rfl _ _ rfl (aC.out _ J.out) bC rfl [eE (r:Nat)] rfl rfl (by simp[Value.oneCell']) (by have:=bd.out;omega) ?_))
   intro v7 w7 o7 g7 b7;obtain⟨Q,R,rfl⟩:=eR o7;obtain⟨k8,be,bf⟩:=aB _ J (by simpa[eM,ints] using o7) (hQ g7) b7;have h7:=(CH.grown (L:=[3]) (M:=[]) (hQ g7) (aC _ J) (by simp)).own (ah▸(X.ok.mem.ext J).row:w5.ownsRow B 177 27 (fN H d.os.length d.oc) d.os.length (la d.os));have bQ:w7.cell? (eJ H (a*27+22))=some (.slice g.nA g.eP.length g.nc):=by rw[h7.cellAt (a*27+22) (by omega),iI gx d.os a 22 y (by omega),z];rfl
   have f22:=h7.frozenAt (a*27+22);clear h7;generalize bR:w7.setCell (eJ H (a*27+22)) (.slice Q (g.eP.length+1) R)=w8 at*;have ai:Hid (oL w8 G N B p (d.jg (d.os.set a (g.h' Q R r))) (.slice nA i.length nc,eM i) (ex++(j++P)) (kB++(j++P)) stk):=eD (by rw[<-iK,<-iK];exact⟨k8,X.low,bc Q R,X.sub⟩);have bD:=eD ((a8.ext J).fk be);have bE:=eD (bf _ _ (J.eH a6) a7);have bg:Hid (∀f v' nw,oL f G N B p (d.jg (d.os.set a (g.h' Q R r))) (v',eM nw) (ex++(j++P)) (kB++(j++P)) stk->CH B [3] [] w8 f->nw=(if fr then i++[r] else i)->VR w f G N B p s ex kB stk a id V C n (k+1) v' (d.jg (d.os.set a (g.h' Q R r))) nw (j++P)):=eD (λf v' nw b hc bF=>⟨b,bD.out.fk (hc.fC (by decide)),hc.eH bE.out,a7.out,by rw[a9.out,aD.out Q R r,ax,bF],⟨l.out.scope,l.out.inits,l.out.gF,l.out.tl,l.out.fn,l.out.fl,l.out.D,l.out.fb,λZ D Y=>(qR Y).elim (l.out.lh Z D) λh=>by rw[h];exact l.out.lh Z g (z▸eU y),λZ D Y=>(qR Y).elim (l.out.OQ Z D) λh=>by rw[h];exact l.out.OQ Z g (z▸eU y)⟩,a'.out,_,bb.out _,ax,by simp[OV.h',bd.out]⟩)
   clear k8 be bf o7 g7 b7 aB aC bB X a8 a6 a9 l a' aD bb bc bA;cases fr with
   |false=>
    have HE:=eD (bg w8 _ i ai (CH.refl _ _ _ _) rfl);go_wp
    go_roundw
    case rel=>exact⟨k+1,_,_,_,by omega,by go_num,HE⟩
    case measure=>simp[intOf];omega
   |true=>
    have bG:=ai.ok.mem.size;go_wp2_with (at_builtin;go_loud(refine jQ rfl _ _ rfl (bx _ _ _ _ ai) bG rfl [eE (r:Nat)] rfl rfl (by simp[Value.oneCell']) (by omega) ?_))
    intro v9 w9 o9 g9 b9;obtain⟨A9,c9,rfl⟩:=eR o9;obtain⟨k9,bh⟩:=ai.swap (v':=.slice A9 (i.length+1) c9) (xs':=eM (i++[r])) (by simpa[eM,ints] using o9) (hQ g9) b9;have HE:=eD (bg w9 _ (i++[r]) k9 bh rfl);clear o9 g9 b9 k9 bh;go_wp
    go_roundw
    case rel=>exact⟨k+1,_,_,_,by omega,by go_num,HE⟩
    case measure=>simp[intOf];omega
  ·obtain rfl:k=n.length:=by omega
   have HF:=eD (show BH w G N B p s ex kB stk id n (fH (ij #[u6,eE 0])) wr from⟨_,m,i,j,rfl,o.x,o.ch,by rw[nP,<-o.f,iT],o.rest,o.last⟩);clear o;go_wp
   go_ret2
   exact HF
end
end
section
section
variable {w:eI} {G:Nat->fe} {N B p:Nat} {s:LS} {ex F:List (eS×fS)} {stk:fS}
theorem oL.row{v:eS}{l:fe}(h:oL w G N B p s (v,eM l) ex F stk):w.ownsRow B 3 1 v l (ints (eM l))/\∃A c,v=.slice A l c:=by have a:=qE (h.ok.mem.ints.mem (gT _ (gM ..))) h.low;simp only[fv] at a;exact⟨a,eR a⟩
theorem oL.ids{q:eS×fS}(h:oL w G N B p s q ex F stk):(s.os.map OV.id).Nodup/\s.os.length<=13:=⟨by rw[<-jD];exact h.ok.ids,by have:=h.ok.iO;have:=h.ok.n12;omega⟩
theorem uZ{a:Ob}(h:a∈s.gd):∃i,∃b:i<s.os.length,s.os[i].ob=a:=by obtain⟨d,c,rfl⟩:=fy.1 h;obtain⟨i,b,rfl⟩:=gN c;exact⟨i,b,rfl⟩
structure VT(w0 w:eI)(G:Nat->fe)(N B p:Nat)(s0:LS)(ex0 F:List (eS×fS))(stk:fS)(R:OS×fe)(k:Nat)(v:eS)(s:LS)(news:fe)(ex:List (eS×fS)):Prop where
 x:oL w G N B p s (v,eM news) (ex0++ex) (F++ex) stk
 ch:CH B jz [] w0 w
 f:∃f,f+k=N+1/\nQ G f (s.gd,s.last) news k=R
 gs:GS (s.gd,s.last) news k
 rest:pf s0 s
 last:s.last<=s0.last+1+8*k
def BJ(w:eI)(G:Nat->fe)(N B p:Nat)(s:LS)(ex F:List (eS×fS))(stk:fS)(k:Nat)(e:Ending)(w':eI):Prop:=
 ∃v s' news ex' gL,e=fH (ij #[eE ((gL:Nat):Int),v,eE 0])/\oL w' G N B p s' (v,eM news) (ex++ex') (F++ex') stk/\CH B jz [] w w'/\pz G N (s.gd,s.last) k=((s'.gd,s'.last),gL,news)/\pf s s'/\s'.last<=s.last+200/\
  GS (s'.gd,s'.last) news news.length/\∃o∈s'.os,o.id=gL
theorem Lb(h:gG w G N B p s ex stk)(ai:∀c∈s.os,lW c.im (ii G c.fQ) F)(hF:∀Y∈F,Y∈ex)(aG:G 0=[]){E:Nat}(aH:E<=N)(aW:s.last<9700){nm:jw}(ha:vW E nm)(or:jw):
 Calls prog 177 #[fw p,eV nm,eV or] w (BJ w G N B p s ex F stk E):=by
 have aj:=h.Vx ai hF;have ak:=eD (SI aj aH (by omega) ha or 0);have aI:∀c∈s.os,c.id<=s.last:=λc f=>(h.each c f).id.2;clear h ai hF aj aI ha;go_in;go_wp
 refine ak.mono ?_;rintro e w1 ⟨g,R,k,H,rfl,al,am,_,_,o,an,aJ,aK,ao⟩;obtain⟨m,I⟩:∃m:fe,m=if H then[k] else[]:=⟨_,rfl⟩
 have ap:GS (g.gd,g.last) m 0:=by
  cases H with
  |false=>subst I;exact⟨by simp,by simp,by simp⟩
  |true=>
   subst I;have f:∃c∈g.gd,c.id=k/\c.eP=[]/\k<=g.last/\c.keep=false:=by
    unfold mf at o;split at o
    ·simp at o
    ·simp only[rH,gP] at o;obtain⟨⟨n,J⟩,K⟩:=o;rw[<-n];exact⟨_,gT _ (fF.2 rfl),K,rfl,by omega,rfl⟩
   obtain⟨c,f,n,J,K,ek⟩:=f;refine⟨by simp,λL r=> ?_,λS L _ r=> ?_⟩
   ·obtain rfl:=fF.1 r;exact⟨K,c,f,n,ek⟩
   ·have:=mp r;obtain rfl:=fF.1 this;exact⟨c,f,n,J⟩
 have T:Hid (∀A U,oL A G N B p g (U,eM m) (ex++R) (F++R) stk->CH B jz [] w1 A->VT w A G N B p s ex F stk (nQ G (N+1) (g.gd,g.last) m 0) 0 U g m R):=eD (λA U hk hc=>⟨hk,am.fk hc,⟨N+1,rfl,rfl⟩,ap,an,by omega⟩);have aL:Hid (∀(a:LS) b,nQ G (N+1) (g.gd,g.last) m 0=((a.gd,a.last),b)->pz G N (s.gd,s.last) E=((a.gd,a.last),k,b)):=eD (λa b hg=>by unfold pz;rw[o];simp only;rw[<-I,hg])
 have M:=eD al;have aM:Hid (∃c∈g.gd,c.id=k):=eD (by obtain⟨q,u,e⟩:=ao;exact⟨q.ob,fy.2 ⟨q,u,rfl⟩,e⟩);have aq:=eD I;clear al am o an aJ aK ao ap I ak;have Z:=M.ok.mem.size;go_wp2_with (at_builtin;go_loud(refine jQ rfl _ _ rfl (ji _ B _ _) Z rfl [eE (k:Nat)] rfl rfl (by simp[Value.oneCell']) (by omega) ?_))
 all_goals first
  |(intro U A o2 g2 b2
    obtain⟨A2,c2,rfl⟩:=eR o2;obtain⟨k2,ar⟩:=M.swap (v':=.slice A2 1 c2) (xs':=eM [k]) (by simpa[eM,ints] using o2) (hQ g2) b2;obtain rfl:H=true:=by assumption
    have v:=aq.out;simp only[nV] at v;have HG:=eD (T A _ (by rw[v];exact k2) (ar.fC (by decide)));clear T o2 g2 b2 k2 ar M Z v;go_wp2)
  |(obtain rfl:H=false:=by first|assumption|simpa using‹¬H=true›
    have v:=aq.out;simp only[Dc,ua] at v;have HG:=eD (T w1 _ (by rw[v];exact M) (CH.refl _ _ _ _));clear T M Z v;skip)
 all_goals
  go_loopw [12,13] (λaN S wr=>∃(j:Nat) (a:LS) (b:fe) (x:List (eS×fS)),j<=b.length/\S=eE j/\VT w wr G N B p s ex F stk (nQ G (N+1) (g.gd,g.last) m 0) j aN a b x/\∃c∈a.gd,c.id=k) (λ_ S _=>14- (intOf S).toNat)
  case atStart=>exact⟨0,g,m,R,eX _,rfl,HG,aM⟩
  case round=>as_aux_lemma=>
   obtain⟨j,a,b,x,hk,rfl,d,V⟩:=hrel;clear HG;obtain⟨ad,nA,nc,rfl⟩:=d.x.row;have aX:b.length<=13:=by
    have h1:=CS (l:=a.gd) b d.gs.SJ (λL r=>by obtain⟨_,c,f,e,_⟩:=d.gs.le L r;exact⟨c,f,e⟩);have h2:=d.x.ids.2;have h3:a.gd.length=a.os.length:=by simp[LS.gd]
    omega
   by_cases O:j<b.length
   ·obtain⟨c,f,n,J⟩:=d.gs.bare j _ (fJ _) (gg O);obtain⟨y,hi,rfl⟩:=uZ f;have aY:=d.last;have aO:=d.x.ids;have aZ:=d.x.ok.iO;have a0:b.length<=N+1:=by
     have h1:=CS (l:=a.gd) b d.gs.SJ (λL r=>by obtain⟨_,c,f,e,_⟩:=d.gs.le L r;exact⟨c,f,e⟩);have h3:a.gd.length=a.os.length:=by simp[LS.gd]
     omega
    have ae:=La d.x.TF aG hi J (by omega);have au:yy a.gd b[j]=a.os[y].fQ:=by rw[<-n];exact Iw d.x.ok.ids f
    have av:a.os[y].id=b[j]:=n;rw[av] at ae;obtain⟨aP,aQ,hA,hb,d0⟩:=ja (Rd.gY ad) O;have aw:=eD ae;have D:=eD d;have ax:Hid (∀(i:LS) more,nP (a.gd,a.last) b[j] (G a.os[y].fQ)=((i.gd,i.last),more)->(∃z,z+(j+1)=N+1/\nQ G z (i.gd,i.last) (b++more) (j+1)=nQ G (N+1) (g.gd,g.last) m 0)/\GS (i.gd,i.last) (b++more) (j+1)/\∃c∈i.gd,c.id=k):=eD (λi more he=>by
     obtain⟨z,hf,P⟩:=d.f;obtain⟨W,rfl⟩:∃W,z=W+1:=⟨z- 1,by omega⟩;refine⟨⟨W,by omega, ?_⟩,d.gs.step O he, ?_⟩
     ·rw[<-P,E' (t:=(i.gd,i.last)) (more:=more) W (a.gd,a.last) O (by rw[au];exact he)]
     ·obtain⟨c,f,e⟩:=V;have ay:=E8 (a.gd,a.last) (d.gs.le _ (eU O)).1 (G a.os[y].fQ);rw[he] at ay;obtain⟨q,u,K,_⟩:=ay.vd c f;exact⟨q,u,K.trans e⟩)
    have a1:=d.x.ok.g8 a.os[y].fQ;clear d ae aO ad f n J av au V;subst hA;generalize a.os[y].fQ=lb at*;generalize b[j]=id at*;go_wp
    refine aw.mono ?_;rintro e w4 ⟨v4,i,more,Q,rfl,af,az,ag,aA,a2⟩;obtain⟨aB,A4,c4,rfl⟩:=af.row;have aC:oL w4 G N B p i (.slice (some (eJ aP aQ)) b.length nc,eM b) ((.slice A4 more.length c4,eM more)::((ex++x)++Q)) ((F++x)++Q) stk:=af.CJ (List.Perm.swap _ _ _) D.x.low (λY hr=>gD _ (CR D.x.sub Y hr));have X:=eD aC;have aD:=eD (Rd.gY aB);have aR:=eD (CR (C:=Q) D.x.sub);have aS:=eD (D.ch.fk az);have ah:=eD (ax i more ag);have aT:=eD (D.rest.trans aA);have aU:i.last<=s.last+1+8*(j+1):=by omega
    have HM:Hid (more.length<=1000):=eD (by
     have h9:((G lb).take (G lb).length).foldl (jc id) ((a.gd,a.last),[])=((i.gd,i.last),more):=by rw[iT];exact ag
     have:=zm h9;omega)
    clear af az ag aA aB aC d0 aw ax D;have aV:=X.ok.mem.size;go_wp2_with (at_builtin;go_loud(refine En rfl _ _ rfl X.row.1 aV rfl A4 c4 (ints (eM more)) more.length rfl (by simp[ints,eM]) aD.out (jP _) (by have:=HM.out;omega) ?_))
    intro v7 w7 o7 g7 b7;obtain⟨A7,c7,rfl⟩:=eR o7;obtain⟨k7,aE⟩:=X.swap (v':=.slice A7 (b.length+more.length) c7) (xs':=eM (b++more)) (by simpa[eM,ints] using o7) g7 (λq u=>by
     rcases b7 with h|h
     ·exact .inl (h▸u)
     ·rw[h] at u;exact .inr (Nat.le_of_eq (mj u)))
    have hE:VT w w7 G N B p s ex F stk (nQ G (N+1) (g.gd,g.last) m 0) (j+1) (.slice A7 (b.length+more.length) c7) i (b++more) (x++Q):=⟨by have:=k7.drop aR;simpa[iK] using this,aS.out.fk (aE.fC (by decide)),ah.out.1,ah.out.2.1,aT.out,aU⟩
    have HE:=eD hE;clear hE o7 g7 b7 k7 aE X aD;go_wp
    go_roundw
    case rel=>exact⟨j+1,i,b++more,x++Q,by simp;omega,by go_num,HE,ah.2.2⟩
    case measure=>simp[intOf];omega
   ·obtain rfl:j=b.length:=by omega
    obtain⟨z,hf,P⟩:=d.f;rw[E9 z _ (fJ _)] at P;have aF:BJ w G N B p s ex F stk E (fH (ij #[eE ((k:Nat):Int),.slice nA b.length nc,eE 0])) wr:=⟨_,a,b,x,k,rfl,d.x,d.ch,aL a b P.symm,d.rest,by have:=d.last;omega,d.gs,by obtain⟨c,f,e⟩:=V;obtain⟨y,hi,rfl⟩:=uZ f;exact⟨_,eU hi,e⟩⟩
    have HF:=eD aF;clear aF d V P ad;go_wp
    go_ret3
    exact HF
end
end
section
theorem xy{c b:List Rg}(h:oh c b){a:Rg}(d:a∈c):∃q∈b,q.at_=a.at_/\q.iU=a.iU/\q.bs=a.bs:=by
 have f:(a.at_,a.iU,a.bs)∈b.map (λa=>(a.at_,a.iU,a.bs)):=by unfold oh at h;rw[h];exact fy.2 ⟨a,d,rfl⟩
 obtain⟨q,g,e⟩:=fy.1 f;simp only[rH] at e;exact⟨q,g,e⟩
theorem oh.symm{rs a:List Rg}(h:oh rs a):oh a rs:=Eq.symm h
theorem oh.len{rs a:List Rg}(h:oh rs a):a.length=rs.length:=by simpa using congrArg List.length h
theorem kW.pg{G:Nat->fe}{rs c:List Rg}{u:List OV}(h:kW G rs u kM)(b:oh rs c):kW G c u kM:=by
 have n:∀a (d:a<c.length) (j:a<rs.length),c[a].at_=rs[a].at_/\c[a].iU=rs[a].iU/\c[a].bs=rs[a].bs:=λa d j=>by have:=congrArg (λw=>w[a]?) b;simp only[vy,gg d,gg j,qO,fd,rH] at this;exact this
 refine⟨⟨jJ.2 λa v o p x=> ?_,λf g=> ?_⟩,λy z=> ?_,h.yD, ?_,by rw[b.len];exact h.len,λf g=> ?_,λr A=> ?_⟩
 ·have d:=n a o (by rw[<-b.len];exact o);have j:=n v p (by rw[<-b.len];exact p);have:=jJ.1 h.wf.pw a v (by rw[<-b.len];exact o) (by rw[<-b.len];exact p) x;unfold Rg.ka at this ⊢;rw[d.1,d.2.2,j.1];exact this
 ·obtain⟨q,i,k,l,m⟩:=xy b.symm g;rw[<-k,<-m];exact h.wf.ok q i
 ·obtain⟨f,g,r,s,t⟩:=h.each y z;obtain⟨q,i,k,l,m⟩:=xy b g;exact⟨q,i,k.trans r,l.trans s,m.trans t⟩
 ·have e:c.map (λf=>f.bs.length)=rs.map λf=>f.bs.length:=Ci (by simp[b.len]) λa d j=>by simp only[jy];rw[(n a (by simpa using d) (by simpa using j)).2.2]
  rw[e];exact h.sum
 ·obtain⟨q,i,k,l,m⟩:=xy b.symm g;rw[<-l];exact h.uG q i
 ·obtain⟨f,g,B,s,t⟩:=h.stack r A;obtain⟨q,i,k,l,m⟩:=xy b g;exact⟨q,i,k.trans B,by rw[m];exact s,l.trans t⟩
section
variable {w:eI} {G:Nat->fe} {N B p:Nat} {s:LS} {ex F:List (eS×fS)} {stk:fS}
theorem pL{q a:OV}(e:q.pl=a.pl):q.id=a.id/\q.fQ=a.fQ/\q.im=a.im/\q.eP=a.eP/\q.group=a.group/\q.lh=a.lh:=by have b:=congrArg OV.id e;have c:=congrArg OV.fQ e;have d:=congrArg OV.im e;have f:=congrArg OV.eP e;have g:=congrArg OV.group e;have i:=congrArg OV.lh e;exact⟨b,c,d,f,g,i⟩
theorem Fa{b c:List OV}(e:c.map OV.pl=b.map OV.pl){a:OV}(d:a∈c):∃q∈b,q.pl=a.pl:=by have f:=e▸fy.2 ⟨a,d,rfl⟩;exact fy.1 f
theorem OU{j:Type}(a:OV->j)(k:∀b,a b.pl=a b){d f:List OV}(e:f.map OV.pl=d.map OV.pl):f.map a=d.map a:=by have g:=congrArg (List.map a) e;simp only[jL] at g;have i:∀c:List OV,c.map (a∘OV.pl)=c.map a:=λc=>mP λb _=>k b;rwa [i,i] at g
theorem y'.gd{s a:LS}(h:y' s a):a.gd=s.gd:=OU OV.ob (λ_=>rfl) h.os
theorem gG.copy(h:gG w G N B p s ex stk){w1:eI}{B1 p1:Nat}{s1:LS}(o:it w1 B1 p1 s1 ex)(a:y' s s1)(c:eF w w1):gG w1 G N B1 p1 s1 ex stk:=by
 have m:=a.gd;refine⟨o,λn f=> ?_, ?_,by rw[a.D];exact h.fs,by rw[m];exact h.ids,by rw[m];exact h.qy,h.up,h.n12,h.g8,by rw[a.last];exact h.yE,by rw[a.inits];exact h.uI,by rw[a.scope];exact h.LX,λj c=> ?_,λn f j c=> ?_,by rw[a.gF];exact h.Nf, ?_⟩
 ·obtain⟨q,g,e⟩:=Fa a.os f;have b:=(h.each q g).ext c;have d:=(pL e).2.1;have i:=(pL e).2.2.1;have r:=(pL e).1;have k:=(pL e).2.2.2.1;have l:=(pL e).2.2.2.2.1;exact⟨d▸b.fQ,by rw[<-d,<-i];exact b.im,by rw[<-d,<-i];exact b.tZ,by rw[<-d,<-i];exact b.rows,by rw[<-r,a.last];exact b.id,k▸b.iO,l▸b.ms⟩
 ·exact(h.rg.pg a.rs).congr (OU OV.st (λ_=>rfl) a.os)
 ·rw[a.scope] at c;obtain⟨n,f,d,i⟩:=h.J6 j c;obtain⟨q,g,e⟩:=Fa a.os.symm f;exact⟨q,g,((pL e).1).trans d,((pL e).2.2.2.2.2).trans i⟩
 ·obtain⟨q,g,e⟩:=Fa a.os f;have k:=(pL e).2.2.2.1;obtain⟨y,t,l⟩:=h.Gy q g j (by rw[k];exact c);obtain⟨u,v,x⟩:=Fa a.os.symm t;exact⟨u,v,(pL x).1.trans l⟩
 ·have:=congrArg List.length a.iQ;simp only[gW] at this;rw[this];exact h.iQ
theorem oL.add{q:eS×fS}(h:oL w G N B p s q ex F stk){a:eI}(c:eF w a){v:eS}{l:fS}(o:a.ownsRow w 3 1 v l (ints l)):oL a G N B p s q ((v,l)::ex) F stk:=by
 have d:=h.ext c;have b:fo 0 a (s.rows++(q::(v,l)::ex)):=(h.ok.mem.ints.push c o (eX _)).iU (by rw[iK];refine Rj _ ?_;rw[nO];exact List.Perm.cons _ (wT (l₂:=[(v,l)])))
 exact d.re (d.ok.mem.UN b) (CH.refl 0 [] [] _) (by simp) h.low (λf b=>gD _ (h.sub f b))
theorem zn{a:List OV}{b:OV}(c:b∈ni a r):∃q∈a,b=if q.id∈r then q.yY else q:=by obtain⟨q,d,e⟩:=fy.1 c;exact⟨q,d,e.symm⟩
theorem Rz(a:List OV)(b:fe):(ni a b).map OV.st=a.map OV.st:=by simp only[ni,jL];refine mP λc _=> ?_;simp only[uE];split<;>rfl
theorem RA(a:List OV)(l:fe):(ni a l).map OV.ob=a.map OV.ob:=by simp only[ni,jL];refine mP λb _=> ?_;simp only[uE];split<;>rfl
theorem oL.yY{q:eS×fS}(h:oL w G N B p s q ex F stk){i:eI}{l:fe}{sA:fE}{sc:Nat}(o:it i B p (s.yY (ni s.os l) sA sc (s.scope++sR s.os l)) (q::ex))(r:CH B lB [] w i)(t:l.Nodup)(u:∀x∈l,∃a∈s.os,a.id=x):
 oL i G N B p (s.yY (ni s.os l) sA sc (s.scope++sR s.os l)) q ex F stk:=by
 have k:∀x∈sR s.os l,x∈l/\∀a∈s.os,a.id=x->a.lh=false:=λx c=>by simp only[sR,jb,Mj,List.any_eq_false,pC,sT,not_and,Bool.not_eq_true] at c;exact⟨c.1,λa b e=>c.2 a b e⟩
 refine⟨h.ok.CJ o (λ_ h=>h) (r.fC lB.sub) (Rz s.os l) (λa b=> ?_) (λa b x c=> ?_) ?_ (λx c=> ?_) h.ok.rg rfl rfl h.ok.uI h.ok.Nf h.ok.iQ,h.low,λa b=> ?_,h.sub⟩
 ·obtain⟨f,g,rfl⟩:=zn b;have:=h.ok.each f g;split
  ·exact⟨this.iO,this.ms⟩
  ·exact⟨this.iO,this.ms⟩
 ·obtain⟨f,g,rfl⟩:=zn b;refine h.ok.Gy f g x ?_;revert c;split<;>exact id
 ·rw[kF];refine⟨h.ok.LX,Ru.nodup t,λm v z y e=> ?_⟩;subst e;obtain⟨a,b,d,j⟩:=h.ok.J6 m v;have:=(k m y).2 a b d;rw[j] at this;cases this
 ·rcases gu.1 c with c|c
  ·obtain⟨a,b,d,j⟩:=h.ok.J6 x c;refine⟨_,fy.2 ⟨a,b,rfl⟩, ?_⟩;split
   ·exact⟨d,rfl⟩
   ·exact⟨d,j⟩
  ·obtain⟨n,_⟩:=k x c;obtain⟨a,b,d⟩:=u x n;exact⟨_,fy.2 ⟨a,b,rfl⟩,by rw[fW (by rw[d];exact n)];exact⟨d,rfl⟩⟩
 ·obtain⟨f,g,rfl⟩:=zn b;have:=h.im f g;split<;>exact this
theorem gG.move{B1 p1:Nat}(h:gG w G N B1 p1 s ex stk)(j:eQ w p 97 kJ)(f:B<=p)(c:B<=B1){b:eI}(k:eQ b p 97 s.cells)(g:w.grownBy b (some p)):gG b G N B p s ex stk/\CH B [97] [] w b:=by
 have a:CH B [97] [] w b:=fi.mono (fi.grown g) λi d=>by simp only[fd] at d;subst d;exact⟨f,.inl ⟨_,_,_,j,by simp⟩⟩
 have l:it b B p s ex:=⟨k,f,(h.mem.vH.mono c).ch a (by decide) (by simp),(h.mem.rT.mono c).ch a (by decide),(h.mem.qb.mono c).ch a (by decide),fq (a.own h.mem.row) c,h.mem.ints.ch a,λi d=>eY c (h.mem.ku i d)⟩;exact⟨{h with mem:=l,each:=λm n=>(h.each m n).ch a (by decide)},a⟩
end
end
end
section
open Go.RowKit
theorem OW(A:fE)(n c:Nat)(w:eI):Calls prog 180 #[.slice A n c] w λe a=>e=fH (.func (.func 260) #[] #[fw w])/\a=w.alloc (eN #[.slice A n c] 23):=by
 go_in;go_wp
 go_ret;exact⟨rfl,rfl⟩
theorem Lc(j:Nat)(k l:Nat)(m:fE)(s:Nat)(b:fe)(A:b.length<=1000)(d:Nat->eI->Prop)(n:∀a c,d a c->c.cell? (eJ l 0)=some (.slice m b s)/\Rd c m (ints (eM b)))(t:∀a (u:a<b.length) c,d (a+1) c->YieldAt Fence.wide (j- 1) prog k #[eE (a:Nat),eE (b[a]:Nat)] c λe f=>e=fH (fz true)/\d a f)(c:eI)(o:d b c):
 CallsIn Fence.wide j prog 260 #[.func (.yield k) #[] #[],fw l] c λe f=>(∃v,e=fH v)/\d 0 f:=by
 obtain⟨w,_⟩:=n _ _ o;refine callsIn_of_wp func260 rfl trivial ?_ rfl;simp only[ntmps260,DG,iw,jH,Nat.reduceAdd,Nat.reduceSub,US,UT,List.push_toArray,UU,j6,nO];gi_wp2
 gi_loopw [3] (λg wr=>∃a:Nat,a<=b.length/\g=eE ((a:Int)- 1)/\d a wr) (λg _=>(intOf g+1).toNat)
 case atStart=>exact⟨b.length,fJ _,rfl,o⟩
 case round=>
  obtain⟨a,u,rfl,i⟩:=hrel;obtain⟨B,p⟩:=n _ _ i;cases a with
  |zero=>
   gi_wp2
   first|go_end0|go_ret
   exact⟨⟨_,rfl⟩,i⟩
  |succ a=>
   have r:a<b.length:=by omega
   obtain⟨C,D,rfl,E,d0⟩:=ja p r;obtain⟨F,G,H,I,J,x⟩:=t a r wr i;have y:(((a+1:Nat):Int)- 1)=(a:Int):=by omega
   rw[y];clear p w;generalize b[a]=K at*;gi_wp2
   refine⟨λh=>(by cases h),x.mono ?_⟩;rintro e f ⟨rfl,z⟩;gi_wp2
   go_roundw
   case rel=>exact⟨a,by omega,by go_num,z⟩
   case measure=>simp[intOf]
def sK(fn:FuncId)(a:Act)(p1 p2:Tmp)(assign body:Code)(D:Nat)(st:LoopState):Loop:={state:=st,pending:=none,fn,tmps:=a.tmps,params:=#[p1,p2],assign,body,defers:=D}
theorem RB{g:Operand}{p1 f:Tmp}{j o:Code}{y:Exit->Act->eI->Prop}{w:eI}{c:Nat}{A:fE}{n:Nat}(F:∀(l:Nat) (b:eI),(resolve a.eval (rangeCall g l) 0).run prog b=.ok {target:=.fn (.func 260) #[fw i],args:=#[.func (.yield l) #[] #[]]} b)(G:r.length<=1000)(H:w.cell? (eJ i 0)=some (.slice A r c))(I:Rd w A (ints (eM r)))(J:∀k (z:k<r.length) (l m:Nat) (b:eI),j.wpIn (Fence.wide.inRound l) m prog (λe B d=>e=.normal/\d=b/\∀s,eF w s->o.wpIn (Fence.wide.inRound l) m prog (λe _ C=>e=.normal/\eF s C) B s) {tmps:=(a.tmps.setIfInBounds p1 (eE (k:Nat))).setIfInBounds f (eE (r[k]:Nat)),defers:=[]} b)(K:∀t,eF w t->t.heap[w.heap.size]? =some (.deferred (some []))->y .normal {a with defers:={target:=.collected w.heap.size,args:=#[]}::a.defers} t):
 (Code.rangeFunc g #[p1,f] j o).wpIn Fence.wide n prog y a w:=by
 refine wpIn_rangeFunc ?_;intro p U;obtain⟨d,u⟩:∃d,(w.alloc (.deferred (some []))).alloc (.loop (sK p a p1 f j o w.heap.size .ready))=d:=⟨_,rfl⟩;have L:eF w d:=by rw[<-u];exact(eF.alloc _ _).trans (eF.alloc _ _)
 have M:d.heap[w.heap.size+1]? =some (.loop (sK p a p1 f j o w.heap.size .ready)):=by rw[<-u];have:=World.alloc_heap_new (w.alloc (.deferred (some []))) (.loop (sK p a p1 f j o w.heap.size .ready));rwa [fM] at this
 have N:d.heap[w.heap.size]? =some (.deferred (some [])):=by rw[<-u];exact(SY _ _ _ (by simp)).trans (World.alloc_heap_new w _)
 refine⟨w.heap.size+1,[{target:=.collected w.heap.size,args:=#[]}],d,{target:=.fn (.func 260) #[fw i],args:=#[.func (.yield (w.heap.size+1)) #[] #[]]},d,260,
  #[.func (.yield (w.heap.size+1)) #[] #[],.pointer (some ⟨i,0,none⟩)],d, ?_, ?_,λ_ _=>trivial, ?_,λh=>(by cases h), ?_⟩
 ·rw[<-u];exact run_enterLoop_outer _ _ _ _ _
 ·exact F _ _
 ·simp[invoke,go_sem]
 ·refine(Lc (n- 1) (w.heap.size+1) i A c r G (λ_ b=>eF w b/\b.heap[w.heap.size+1]? =some (.loop (sK p a p1 f j o w.heap.size .ready))/\b.heap[w.heap.size]? =some (.deferred (some []))) (λ_ b h=>⟨h.1.cell H,h.1.rd I⟩) (λk z b h=> ?_) d ⟨L,M,N⟩).mono ?_
  ·refine⟨p,(a.tmps.setIfInBounds p1 (eE (k:Nat))).setIfInBounds f (eE (r[k]:Nat)),j,o,by simpa[sK] using run_yield (P:=prog) (args:=#[eE (k:Nat),eE (r[k]:Nat)]) h.2.1 rfl, ?_⟩;refine roundIn_of_wpIn trivial ?_;refine Go.wpIn_mono (J k z _ _ b) ?_;rintro e B t ⟨rfl,rfl,O⟩;have D:=(LV.1 h.2.1).1;refine⟨_,run_beginRound (P:=prog) h.2.1 rfl, ?_⟩;refine Go.wpIn_mono (O _ (Qi h.1 (belowK_b (w:=w) (fJ _) _ _ _ _ (by omega) h.2.1 rfl rfl))) ?_;rintro e V C ⟨rfl,v⟩;have x:=(v.below.block (w.heap.size+1) (by simpa using D)).trans (World.putObj_heap_same D);have Q:=(v.below.block w (by simp;omega)).trans ((World.putObj_heap_other (by omega)).trans h.2.2);refine⟨_,_,run_endRound none x,rfl, ?_,World.putObj_heap_same (LV.1 x).1,(World.putObj_heap_other (by omega)).trans Q⟩;exact(Qi h.1 (belowK_b (w:=w) (fJ _) _ _ _ _ (by omega) h.2.1 rfl rfl)).trans ((Below.mono v.below (by have:=h.1.size;simpa using this)).trans (belowK_b (w:=w) (fJ _) _ _ _ _ (by omega) x rfl rfl))
  ·rintro e s ⟨⟨W,rfl⟩,R,E,S⟩;have T:=run_endLoop (P:=prog) E (by simp[sK]);refine⟨none,_,T,K _ ?_ ?_⟩
   ·exact Qi R (belowK_b (w:=w) (fJ _) _ _ _ _ (by omega) E rfl rfl)
   ·exact(World.putObj_heap_other (by omega)).trans S
end
section
open Go.RowKit Go.Maps
section
theorem OX(h:eQ w n f #[x]){a:Nat}(b:a<=n):w.ownsRow a f 1 (fN n 1 1) 1 [x]:=
 ⟨rfl,.inr ⟨n,1,#[x],rfl,b,h,fJ _,by unfold maxLen;omega,rfl,rfl⟩⟩
theorem Fb{c:Func}{p q d:Tmp}{u v:ik}(h:c.results=#[.cell p f,.cell q u,.cell d v]){a:kx}{b:Program}{w:eI}{A B C:Addr}{x y z:eS}(g:a.getD p undef=.pointer (some A))(i:a.getD q undef=.pointer (some B))(j:a.getD d undef=.pointer (some C))(k:(loadVar f A).run b w=.ok x w)(l:(loadVar u B).run b w=.ok y w)(m:(loadVar v C).run b w=.ok z w):(results c a).run b w=.ok (ij #[x,y,z]) w:=by simp only[Sl] at g i j;simp only[results,h];simp[nU,Result.andThen,g,i,j,k,l,m,asAddr]
theorem lX{size:Nat}{e:ik}{v:eS}(h:w.ownsRow n e size v k l){b:Nat}(a:v.ownBlock=some b):∃c,w.heap[b]? =some (.cells c e (0,0)):=by
 rcases h.2 with⟨rfl,_⟩|⟨f,g,i,rfl,_,d,_⟩
 ·cases a
 ·simp only[Value.ownBlock,fd] at a;subst a;exact⟨_,d⟩
theorem TM{l:List Ob}(a:fe)(i:a.Nodup)(b:∀c∈a,∃j∈l,j.id=c):a.length<=l.length:=by
 have k:(a.map (sG l)).Nodup:=by refine jJ.2 λn o d f p e=> ?_;simp only[gW] at d f;simp only[jy] at e;have r:=jJ.1 i n o d f p;have g:=vG (qx (b _ (eU d)));have s:=vG (qx (b _ (eU f)));simp only[e] at g;exact r (g.symm.trans s)
 have:=iM (m:=l.length) _ k (λv t=>by obtain⟨c,u,rfl⟩:=fy.1 t;exact qx (b c u))
 simpa using this
section
variable {w:eI} {G:Nat->fe} {N B p:Nat} {s:LS} {ex:List (eS×fS)} {stk:fS}
theorem gG.u1(h:gG w G N B p s ex stk):s.scope.length<=13:=by
 have f:=TM (l:=s.gd) s.scope h.LX (λb c=>by obtain⟨a,d,e,_⟩:=h.J6 b c;exact⟨a.ob,fy.2 ⟨a,d,rfl⟩,e⟩)
 have g:=h.iO;have i:=h.n12;have j:s.gd.length=s.os.length:=by simp[LS.gd]
 omega
theorem gG.cell(h:gG w G N B p s ex stk){b:eI}(a:eF w b){x:Int}(c:eQ b w.heap.size 3 #[.int .i64 x]):gG b G N B p s (ex++[(.slice (some ⟨w.heap.size,0,none⟩) 1 1,[x])]) stk:=
 {h with
  mem:=⟨a.eH h.mem.eH,h.mem.low,h.mem.vH.ext a,h.mem.rT.ext a,h.mem.qb.ext a,a.own h.mem.row,by
   have:=h.mem.ints.add a (N:=[(fN w 1 1,[x])]) (.one (OX c (fJ _))) (eX _);simpa using this,h.mem.ku⟩
  each:=λd f=>by have:=(h.each d f).ext a;exact⟨this.fQ,this.im,this.tZ,this.rows.mono (λq g=>iL _ g),this.id,this.iO,this.ms⟩}
theorem gG.OY{c:Nat}{l:fS}{ex1 ex2:List (eS×fS)}(h:gG w G N B p s (ex1++(.slice (some ⟨c,0,none⟩) 1 1,l)::ex2) stk)(k:∀d∈s.os,lW d.im (ii G d.fQ) (ex1++ex2))(m:eQ w c 3 kJ)(u:eS):gG (w.setCell ⟨c,0,none⟩ u) G N B p s (ex1++ex2) stk:=by
 have b:CH 0 [3] [] w (w.setCell (eJ c 0) u):=CH.set m (eX _) (by simp) 0 u;have a:=h.mem;have f:=a.ints.nodup;refine {h with
  mem:=⟨b.eH a.eH,a.low,a.vH.ch b (by decide) (by simp),a.rT.ch b (by decide),a.qb.ch b (by decide),b.own a.row, ?_,a.ku⟩
  each:=λd g=>by have:=(h.each d g).ch b (by decide);exact⟨this.fQ,this.im,this.tZ,k d g,this.id,this.iO,this.ms⟩}
 refine(a.ints.sub ((DM _).append ((DM _).append (tm _ _)))).lS (fi.set w c 0 u) λi n e=> ?_;subst e;have:iG (s.rows++(ex1++(Value.slice (some ⟨i,0,none⟩) 1 1,l)::ex2))=iG (s.rows++ex1)++i::iG ex2:=by simp[iG,Value.ownBlock]
 rw[this] at f;have j:=Fc.nodup_iff.1 f;rw[ph] at j;refine j.1 ?_;rw[<-jC];simpa using n
theorem gG.OZ{ex':List (eS×fS)}(h:gG w G N B p s ex stk)(c:ex'.Sublist ex)(d:∀a∈s.os,lW a.im (ii G a.fQ) ex'):gG w G N B p s ex' stk:=
 {h with
  mem:={h.mem with ints:=h.mem.ints.sub ((DM _).append c)}
  each:=λa b=>{h.each a b with rows:=d a b}}
theorem LW.cell{m:Im}(h:LW w m jp){c:Nat}(g:eQ w c 23 #[.slice none 0 0])(u:eS):LW (w.setCell ⟨c,0,none⟩ u) m jp:=by
 have i:CH 0 [23] [] w (w.setCell (eJ c 0) u):=CH.set g (eX _) (by simp) 0 u;refine {h with sy:=h.sy.ch i,bk:= ?_,wd:=h.wd.ch i};have b:=h.mU.trans UE;obtain⟨a,r,s⟩:∃a,m.t.bs=[a]/\a.is=[0]:=by
  cases j:m.t.bs with
  |nil=>rw[j] at b;cases b
  |cons a z=>rw[j] at b;simp only[hU,zK,O0] at b;exact⟨a,by rw[b.2],b.1⟩
 have d:=h.bk;rw[r] at d ⊢;obtain⟨t,v,k,f⟩:=d.rd 0 (by simp);have l:t≠c:=by
  rintro rfl;unfold eQ at g;have x:a.cell=.slice a.A 1 a.c:=by simp[Bk.cell,s]
  simp only[hU,jt,sZ,x] at f;simp only[World.cell?,g] at f;cases v with
  |zero=>simp at f
  |succ A=>simp at f
 have n:=fi.set w c 0 u;exact⟨n.rd d.rd λo p e=>by rw[k] at e;cases e;exact l,λy o p e=>(d.ty y o p e).lS n (by rw[k] at e;cases e;exact l)⟩
theorem gG.O3(h:gG w G N B p s ex stk){c:Nat}(d:eQ w c 23 #[eW])(u:eS):gG (w.setCell (eJ c 0) u) G N B p s ex stk:=by
 have b:CH 0 [23] [] w (w.setCell (eJ c 0) u):=CH.set d (eX _) (by simp) 0 u;have a:=h.mem;exact {h with
  mem:=⟨b.eH a.eH,a.low,a.vH.ch b (by decide) (by simp),a.rT.ch b (by decide),a.qb.ch b (by decide),b.own a.row,a.ints.ch b,a.ku⟩
  each:=λf j=>by
   have:=h.each f j;refine⟨this.fQ,this.im.ch b (by decide) (by decide) (by simp),λg=> ?_,this.rows,this.id,this.iO,this.ms⟩;have i:=this.tZ g;have e:ii G f.fQ=jp:=by rw[g];rfl
   rw[e] at i ⊢;exact i.cell d u}
theorem gG.RC(h:gG w G N B p s ex stk){c:Nat}{d:kx}(f:eQ w c 64 d)(u:eS):gG (w.setCell (eJ c 0) u) G N B p s ex stk:=by
 have a:CH 0 [64] [] w (w.setCell (eJ c 0) u):=CH.set f (eX _) (by simp) 0 u;have b:=h.mem;exact {h with
  mem:=⟨a.eH b.eH,b.low,b.vH.ch a (by decide) (by simp),b.rT.ch a (by decide),b.qb.ch a (by decide),a.own b.row,b.ints.ch a,b.ku⟩
  each:=λg i=>by have:=h.each g i;exact⟨this.fQ,this.im.ch a (by decide) (by decide) (by simp),λj=>(this.tZ j).ch a (by decide) (by decide) (by decide),this.rows,this.id,this.iO,this.ms⟩}
def LS.maps(s:LS):fe:=s.tl.m1::s.tl.m2::s.tl.m3::s.fb::s.tl.iQ.map (λx=>x.2.2)
theorem it.UV(h:it w B p s ex):∀a∈s.maps,B<=a:=λa b=>by
 simp only[LS.maps,fm,fy] at b;rcases b with rfl|rfl|rfl|rfl|⟨c,d,rfl⟩
 ·exact h.rT.Eh
 ·exact h.rT.Ei
 ·exact h.rT.Ck
 ·exact h.qb.yn
 ·exact(h.rT.pJ c d).1
theorem gG.Wl(h:gG w G N B p s ex stk){f:Nat}{x y:Option (List Deferred)}(m:w.heap[f]? =some (.deferred x)):gG (w.putObj f (.deferred y)) G N B p s ex stk/\CH 0 [] [f] w (w.putObj f (.deferred y)):=by
 have b:CH 0 [] [f] w (w.putObj f (.deferred y)):=⟨rfl,rfl,rfl,by simp,λi _ F=>World.putObj_heap_other (λe=>F ⟨eX _,.inr (by simp[e])⟩)⟩;have d:∀{A k o},eQ w A k o->A∉[f]:=λd e=>by obtain rfl:=fF.1 e;unfold eQ at d;rw[m] at d;cases d
 have c:∀{C:Type} {i:ik} {H:eS->Option (DataW C×List MemPlace)} {D u:Nat} {I:DataW C},w.ownsMap prog i H D u I->D∉[f]:=λl e=>by obtain rfl:=fF.1 e;obtain⟨S,T,d,_⟩:=l;rw[m] at d;cases d
 have l:∀{J k K u E L},w.ownsRow J k K E u L->∀i,E.ownBlock=some i->i∉[f]:=λl i v e=>by obtain rfl:=fF.1 e;obtain⟨o,d⟩:=lX l v;rw[m] at d;cases d
 have r:∀g∈[f],∀k,¬jT w k g:=λg c k M=>by obtain rfl:=fF.1 c;obtain⟨o,a,O,n,_⟩:=M;rw[m] at n;cases n
 have q:=h.mem;have a:=q.rT;have j:=q.qb;exact⟨{h with
  mem:=⟨b.eH q.eH (by simp) (d q.eH),q.low,q.vH.ch b (by simp) (λg c o a O n=>by obtain rfl:=fF.1 c;rw[m] at n;cases n),
   ⟨b.eH a.eH (by simp) (d a.eH),a.low,a.Eh,a.Ei,a.Ck,b.map a.rS (c a.rS),b.map a.tM (c a.tM),b.map a.rj (c a.rj),λx z=>⟨(a.pJ x z).1,b.map (a.pJ x z).2 (c (a.pJ x z).2)⟩⟩,
   ⟨b.eH j.eH (by simp) (d j.eH),j.low,j.yn,b.map j.map (c j.map),j.iO⟩,
   b.own q.row (by simp) (l q.row),q.ints.ch b (by simp) (λi v=>by obtain⟨U,P,e⟩:=fu.1 v;exact l (q.ints.mem P) i e),q.ku⟩
  each:=λQ R=>by have:=h.each Q R;exact⟨this.fQ,this.im.ch b (by simp) (by simp) r,λt=>{this.tZ t with sy:=(this.tZ t).sy.ch b (by simp) (λg c=>r g c _),bk:=(this.tZ t).bk.ch b (by simp) (λg c=>r g c _),wd:=(this.tZ t).wd.ch b (by simp) (λg c=>r g c _)},this.rows,this.id,this.iO,this.ms⟩},b⟩
end
end
section
section
variable {w:eI} {G:Nat->fe} {N B p:Nat} {s:LS} {ex:List (eS×fS)} {stk:fS}
theorem kW.SK(h:kW G s.rs s.os stk){a:Int}(d:a∈stk):∃b c,EO s.rs (a+1016) b c/\c.at_=a/\c.bs.length=1024:=by obtain⟨l,f,g,i,j⟩:=h.stack a d;obtain⟨b,k,rfl⟩:=gN f;exact⟨b,_,⟨gg k,j,by omega,by omega⟩,g,i⟩
theorem kW.qZ(h:kW G s.rs s.os stk){b:Int}{c:Nat}{a:Rg}(d:EO s.rs (b+1016) c a)(j:a.at_=b)(k:a.bs.length=1024)(f:fS):kW G (qZ s.rs c a (b+1016) f) s.os stk:=by
 unfold Go.Proofs.YtoaehdgokeicoaaGreatDoor.qZ;split
 ·exact h
 ·refine h.VL d.is d.iU rfl rfl ?_;have g:((b+1016)- 136- a.at_).toNat=880:=by omega
  have i:z8.length=8:=rfl;simp only[Rg.put,g,fT,ig,jE,i];omega
def Le(o:OV):fS:=if o.fQ=0 then[] else[(o.fQ:Int)]
def TP(o:OV):fS:=if o.fQ=0 then[] else[-(o.fQ:Int)]
def I5(w:eI)(G:Nat->fe)(N B p:Nat)(s:LS)(ex:List (eS×fS))(stk:fS)(ns:fS)(e:Ending)(w':eI):Prop:=
 ∃v' rs,e=fH (ij #[v',eE 0])/\w'.ownsRow w 3 1 v' ns (ints ns)/\gG w' G N B p (s.rX rs s.rv) ex stk/\CH B jz [] w w'
theorem Lf(h:gG w G N B p s ex stk)(K:s.inits<=9999){i:Nat}(d:i<s.os.length){k:Int}(z:k∈stk)(o id:Int):
 Calls prog 189 #[fw p,kX 0 o 0 (k+1016) id,eE (s.os[i].id:Nat)] w (I5 w G N B p ((s.ke (s.inits+1)).jg (s.os.set i (s.os[i].ke (s.inits+1)))) ex stk (Le s.os[i])):=by
 have l:=eU d;have f:=h.each _ l;have gO:(s.os.map OV.id).Nodup:=by rw[<-jD];exact h.ids
 have A:s.os.length<=1000:=by have:=h.iO;have:=h.n12;omega
 obtain⟨L,M,r,C,D⟩:=h.rg.SK z;have E:=(h.rg.zM l (by have:=f.fQ;have:=h.n12;omega)).1;refine(KO h.mem A (by omega) d (λj t e=>by have:=fZ gO (i:=j) (j:=i) (by simp;omega) (by simpa using d) (by simpa using e);omega) ⟨by have:=f.iO;omega,by have:=f.ms;omega⟩ o (k+1016) id f.rows.rM h.rg.wf E r).mono ?_
 rintro e O ⟨F,rfl,a,H,u⟩;have v:∀a∈s.os.set i (s.os[i].ke (s.inits+1)),∃q∈s.os,a.id=q.id/\a.eP=q.eP/\a.group=q.group/\a.lh=q.lh:=λa b=>by
  rcases qR b with b|rfl
  ·exact⟨a,b,rfl,rfl,rfl,rfl⟩
  ·exact⟨_,l,rfl,rfl,rfl,rfl⟩
 have I:(s.os.set i (s.os[i].ke (s.inits+1))).map OV.st=s.os.map OV.st:=by
  rw[qQ];have:OV.st (s.os[i].ke (s.inits+1))=(s.os.map OV.st)[i]'(by simpa using d):=by simp[OV.st,OV.ke]
  rw[this,Bw]
 refine⟨F,_,rfl,a,h.CJ H (λ_ h=>h) u I (λa b=> ?_) (λa b m g=> ?_) h.LX (λm g=> ?_) (h.rg.qZ r C D _) rfl rfl (by show s.inits+1<=10000;omega) h.Nf h.iQ,u⟩
 ·obtain⟨q,c,_,n,J,_⟩:=v a b;exact⟨by rw[n];exact(h.each q c).iO,by rw[J];exact(h.each q c).ms⟩
 ·obtain⟨q,c,_,n,_⟩:=v a b;rw[n] at g;exact h.Gy q c m g
 ·obtain⟨q,c,x,y⟩:=h.J6 m g;obtain⟨j,t,rfl⟩:=gN c;refine⟨(s.os.set i (s.os[i].ke (s.inits+1)))[j]'(by simpa using t),eU _, ?_⟩;rw[tk];split
  ·rename_i e;subst e;exact⟨x,y⟩
  ·exact⟨x,y⟩
theorem Lg(h:gG w G N B p s ex stk){i:Nat}(c:i<s.os.length){d:Int}(n:d∈stk)(f id:Int):
 Calls prog 120 #[fw p,kX 0 f 0 (d+1016) id,eE (s.os[i].id:Nat)] w (I5 w G N B p s ex stk (TP s.os[i])):=by
 have g:=eU c;have a:=h.each _ g;have gO:(s.os.map OV.id).Nodup:=by rw[<-jD];exact h.ids
 have o:s.os.length<=1000:=by have:=h.iO;have:=h.n12;omega
 obtain⟨y,z,k,r,t⟩:=h.rg.SK n;have u:=(h.rg.zM g (by have:=a.fQ;have:=h.n12;omega)).2.1;refine(KN h.mem o c (λj A e=>by have:=fZ gO (i:=j) (j:=i) (by simp;omega) (by simpa using c) (by simpa using e);omega) ⟨by have:=a.iO;omega,by have:=a.ms;omega⟩ f (d+1016) id a.rows.yv h.rg.wf u k).mono ?_
 rintro e C ⟨v,rfl,b,x,l⟩;exact⟨v,_,rfl,b,h.CJ x (λ_ h=>h) l rfl (λb m=>⟨(h.each b m).iO,(h.each b m).ms⟩) h.Gy h.LX h.J6 (h.rg.qZ k r t _) rfl rfl h.uI h.Nf h.iQ,l⟩
end
end
section
section
variable {w:eI} {G:Nat->fe} {N B p:Nat} {s:LS} {ex:List (eS×fS)} {stk:fS}
theorem O'(c:(s.os.map OV.id).Nodup){i:Nat}(d:i<s.os.length)(b:Nat):((s.os.set i (s.os[i].ke b)).map OV.ob)=s.gd.map λa=>if a.id=s.os[i].id then {a with gE:=b} else a:=by
 apply Ci
 ·simp[LS.gd]
 ·intro j f l;have g:j<s.os.length:=by simpa using f
  simp only[LS.gd,jy,tk];by_cases e:i=j
  ·subst e;simp[OV.ob,OV.ke]
  ·rw[fG e,fG];intro k;have:=fZ c (i:=j) (j:=i) (by simpa using g) (by simpa using d) (by simpa[OV.ob] using k);exact e this.symm
def hY(os:List OV)(pl:fe):fS:=pl.flatMap λj=>if(kr (os.map OV.ob) j)=0 then[] else[((kr (os.map OV.ob) j:Nat):Int)]
structure sS(w0 w:eI)(G:Nat->fe)(N B p:Nat)(s0:LS)(ex:List (eS×fS))(stk:fS)(ids:fe)(s:LS):Prop where
 ok:gG w G N B p s ex stk
 ch:CH B jz [] w0 w
 gd:(s.gd,s.inits)=pH s0.gd s0.inits ids
 pg:s.last=s0.last/\s.scope=s0.scope/\s.gF=s0.gF/\s.tl=s0.tl/\s.D=s0.D/\s.fn=s0.fn/\s.fl=s0.fl/\s.fb=s0.fb
 st:s.os.map OV.st=s0.os.map OV.st
theorem sS.refl(h:gG w G N B p s ex stk):sS w w G N B p s ex stk [] s:=⟨h,CH.refl _ _ _ _,rfl,⟨rfl,rfl,rfl,rfl,rfl,rfl,rfl,rfl⟩,rfl⟩
theorem sS.step{a:LS}(h:sS v w G N B p a ex stk r s){i:Nat}(b:i<s.os.length){rs:List Rg}(d:gG u G N B p (((s.ke (s.inits+1)).jg (s.os.set i (s.os[i].ke (s.inits+1)))).rX rs s.rv) ex stk)(f:CH B jz [] w u):
 sS v u G N B p a ex stk (r++[s.os[i].id]) (((s.ke (s.inits+1)).jg (s.os.set i (s.os[i].ke (s.inits+1)))).rX rs s.rv):=by
 refine⟨d,h.ch.fk f, ?_,h.pg, ?_⟩
 ·have c:=h.gd;simp only[pH] at c ⊢;rw[Dk,<-c];show((s.os.set i (s.os[i].ke (s.inits+1))).map OV.ob,s.inits+1)=rP (s.gd,s.inits) s.os[i].id;rw[O' (by rw[<-jD];exact h.ok.ids) b];rfl
 ·rw[<-h.st];show(s.os.set i (s.os[i].ke (s.inits+1))).map OV.st=_;rw[qQ];have:OV.st (s.os[i].ke (s.inits+1))=(s.os.map OV.st)[i]'(by simpa using b):=by simp[OV.st,OV.ke]
  rw[this,Bw]
theorem sS.grow{b:LS}{v:eS}(h:sS u w G N B p b ((v,kM)::ex) stk r s)(j:∀f,v.ownBlock=some f->B<=f)(a:W.ownsRow 0 3 1 x kN (ints kN))(k:w.grownBy W v.ownBlock)(l:∀c,x.ownBlock=some c->v.ownBlock=some c\/w.heap.size<=c)(m:∀a∈b.os,lW a.im (ii G a.fQ) ex):
 sS u W G N B p b ((x,kN)::ex) stk r s:=by obtain⟨d,g⟩:=zg h.ok.mem a k l j;refine⟨{h.ok with mem:=d,each:=λq i=> ?_},h.ch.fk (g.fC (by decide)),h.gd,h.pg,h.st⟩;have n:=(h.ok.each q i).ch g (by decide);obtain⟨o,t,A,y,z,_⟩:=uU h.st i;exact {n with rows:=(by rw[<-y,<-z];exact(m o t).mono (λ_ d=>gD _ d))}
theorem sS.ext{w':eI}{a:LS}(h:sS v w G N B p a ex stk r s)(b:eF w w'):sS v w' G N B p a ex stk r s:=⟨h.ok.ext b,h.ch.ext b,h.gd,h.pg,h.st⟩
end
end
section
section
variable {w:eI} {G:Nat->fe} {N B p:Nat} {s:LS} {ex:List (eS×fS)} {stk:fS}
def Pa(w0 wr:eI)(G:Nat->fe)(N B p:Nat)(s:LS)(ex:List (eS×fS))(stk:fS)(pl:fe)(idr:eS×fS)(k:Nat)(v8:eS):Prop:=
 ∃A c s',v8=.slice A (hY s.os (pl.take k)).length c/\sS w0 wr G N B p s ((v8,hY s.os (pl.take k))::idr::ex) stk ((gw s.os pl).take k) s'/\∀b,v8.ownBlock=some b->B<=b
theorem zo(a:List OV):∀l:fe,(hY a l).length<=l.length
 |[]=>fJ _
 |b::l=>by
  have:=zo a l;simp only[hY,oz,fT,iw] at this ⊢;split
  ·simp only[jH];omega
  ·simp only[iw,jH];omega
theorem Ff:∀(b:fe) (l:List Ob) (a:Nat),(pH l a b).2=a+b.length
 |[],l,a=>rfl
 |id::b,l,a=>by have:=Ff b (rP (l,a) id).1 (a+1);simp only[pH,nK,rP] at this ⊢;rw[this,iw];omega
def oN(w:eI)(G:Nat->fe)(N B p:Nat)(s:LS)(ex:List (eS×fS))(stk:fS)(pl:fe)(e:Ending)(w':eI):Prop:=
 ∃A c s',e=fH (ij #[.slice A (hY s.os pl).length c,eE 0])/\sS w w' G N B p s ((.slice A (hY s.os pl).length c,hY s.os pl)::ex) stk (gw s.os pl) s'
theorem wh(h:gG w G N B p s ex stk)(ai:∀x∈s.os,lW x.im (ii G x.fQ) ex){I:Nat}{cs:kx}(hl:eQ w I 91 cs)(aj:cs[0]? =some (.pointer (some ⟨p,0,none⟩)))(ak:Nat)(aY:s.inits<=9900){J:Int}(ha:J∈stk)(K id:Int){a:fe}(al:∀c,eF w c->Calls prog 188 #[.pointer (some ⟨p,0,none⟩),.int .i64 (ak:Nat)] c (pu c (gw s.os a)))(am:a.Nodup)(M:∀aG∈a,aG<s.os.length):
 Calls prog 111 #[.pointer (some ⟨I,0,none⟩),kX 0 K 0 (J+1016) id,.int .i64 (ak:Nat)] w (oN w G N B p s ex stk a):=by
 have aH:=eD h;have O:=eD ai;have HL:=eD hl;have an:=eD aj;have ao:=eD al;have aI:=eD M;have aZ:a.length<=13:=by have j:=iM (m:=s.os.length) a am M;have:=h.iO;have:=h.n12;omega
 clear h ai hl aj al am M;obtain⟨i,P⟩:∃i,i=nR 0 K 0 (J+1016) id:=⟨_,rfl⟩;have HC:=eD P;unfold kX;rw[<-P];clear P;have c0:=(HL.alloc (eN i.toArray 108)).cell 0 an;go_in;go_wp
 have ap:=eD (eQ.new w 108 i.toArray);have y:=eD (eF.alloc w (eN i.toArray 108));clear c0;generalize w.alloc (eN i.toArray 108)=w1 at*;refine(ao w1 y).mono ?_;rintro e w2 ⟨v',rfl,Q,z⟩;obtain⟨r,n,rfl⟩:=eR Q;have aJ:=eD (y.trans z);have aK:=eD (z.eH ap);have aL:(gw s.os a).length=a.length:=by simp[gw]
 have aq:gG w2 G N B p s ((eW,[])::(.slice r (gw s.os a).length n,eM (gw s.os a))::ex) stk:=by exact(((aH.ext y).Vx (F:=ex) O (λ_ h=>h)).add z (v:=.slice r (gw s.os a).length n) (l:=eM (gw s.os a)) (by rw[fv];exact Q)).ok
 have HI:Hid (Pa w w2 G N B p s ex stk a (.slice r (gw s.os a).length n,eM (gw s.os a)) 0 (eW)):=eD ⟨none,0,s,rfl,⟨aq,CH.fg aJ,rfl,⟨rfl,rfl,rfl,rfl,rfl,rfl,rfl,rfl⟩,rfl⟩,λk g=>by cases g⟩;clear Q z y ap ao aq;go_wp2;go_loopw [21,8,9] (λR v8 v9 wr=>∃b:Nat,b<=a.length/\R=eE b/\v9=eE 0/\Pa w wr G N B p s ex stk a (.slice r (gw s.os a).length n,eM (gw s.os a)) b v8/\eQ wr w 108 i.toArray) (λR _ _ _=>a.length- (intOf R).toNat)
 case atStart=>exact⟨0,eX _,rfl,rfl,HI,aK⟩
 case round=>
  obtain⟨b,hk,rfl,rfl,aM,t⟩:=hrel;obtain⟨S,T,d,rfl,f,A⟩:=aM;by_cases ar:b<a.length
  ·have au:d.inits<=9999:=by have j:=congrArg Prod.snd f.gd;rw[Ff] at j;simp only[ig] at j;omega
   have C:=aI _ (eU ar);have D:a[b]<d.os.length:=by have:=congrArg List.length f.st;simp only[gW] at this;omega
   have U:(gw s.os a)[b]'(by omega)=d.os[a[b]].id:=by
    have j:(d.os.map OV.st)[a[b]]'(by simpa using D)=(s.os.map OV.st)[a[b]]'(by simpa using C):=by simp only[f.st]
    simp only[jy] at j;have V:d.os[a[b]].id=s.os[a[b]].id:=congrArg (λW=>W.1) j;rw[V];simp[gw,jx,C]
   have av:wr.ownsRow 0 3 1 (.slice r (gw s.os a).length n) (gw s.os a).length (ints (eM (gw s.os a))):=by have:=f.ok.mem.ints.mem (p:=(.slice r (gw s.os a).length n,eM (gw s.os a))) (gT _ (gD _ (gM ..)));rwa [fv] at this
   obtain⟨k,aN,rfl,g,d0⟩:=ja (Rd.gY av) (show b<(gw s.os a).length by omega);rw[U] at d0;have aw:=eD f;have E:=eD (λc (X:eF wr c)=>Lf (f.ok.ext X) au D ha K id);have e0:=oO ((f.ch.eH HL).cell 0 an);have ax:Hid (∀c,(∃Y:EW wr,c=Y.w)->(loadVar 108 (eJ w 0)).run prog c=.ok (fV i.toArray) c):=eD (λc ⟨Y,hu⟩=>by subst hu;exact(Y.ext.eH t).load 108 0 i (by rw[vw,iT]) _ underlying108 rfl (by rw[HC];kernel_rfl))
   have ay:=eD t;have HB:=eD A;unfold kX at E;rw[<-HC] at E;have aO:Hid (d.os[a[b]].id=(gw s.os a)[b]'(by omega)):=eD U.symm;clear f t A av U au;generalize az:d.os[a[b]].id=a0 at*;have aP:=eD az;clear az;go_wp
   clear d0;refine iW [0,1,2,3,4,5] [] (.e [6] (.q [7,8,9,10,11] .done)) ?_;iterate 4 (go_big_quiet_step (fail))
   refine fR rfl 108 (.tmp 4) rfl _ _ rfl ax (by simp[Act.put];rfl) ?_;repeat(go_big_quiet_step (fail))
   refine eO ?_;clear e0 ax;refine eT ?_;go_wp
   refine(E _ (eF.drew wr)).mono ?_;rintro e w3 ⟨v2,a1,rfl,Z,aA,ad⟩;have pQ:=aw.step D aA ((CH.fg (eF.drew wr)).fk ad);obtain⟨oA,oc,rfl⟩:=eR Z;have u:=eD pQ;have aB:=eD Z;have ae:=eD (((CH.fg (eF.drew wr)).fk ad:CH B jz [] wr w3).eH ay);clear pQ Z aA ad E ay;go_wp2;refine iH ?_;refine fj ?_;repeat(go_big_quiet_step (fail))
   refine eO ?_;refine fP ?_;have t:Le d.os[a[b]]=hY s.os [a[b]]:=by
    have j:(d.os.map OV.st)[a[b]]'(by simpa using D)=(s.os.map OV.st)[a[b]]'(by simpa using C):=by simp only[aw.st]
    simp only[jy] at j;have V:d.os[a[b]].fQ=s.os[a[b]].fQ:=congrArg (λW=>W.2.1) j;simp[Le,hY,kr,C,V,OV.ob]
   have a2:(Le d.os[a[b]]).length<=1:=by unfold Le;split<;>simp
   have a3:(hY s.os (a.take b)).length<=13:=by have:=zo s.os (a.take b);simp only[ig] at this;omega
   generalize Le d.os[a[b]]=ns at*;go_wp2_with (at_builtin;go_loud(refine iZ rfl (.tmp 35) (.tmp 36) rfl (B:=0) (L:=_) u.ok.mem.ints _ (.slice S (hY s.os (a.take b)).length T) (hY s.os (a.take b)) (by rw[qq (fJ _),qW];rfl) rfl oA oc ns.length ns rfl rfl (Rd.fC aB) (by omega) (eX _) ?_))
   intro v4 o r4 g4 h4;have H:o.ownsRow 0 3 1 v4 (hY s.os (a.take b)++hY s.os [a[b]]).length (ints (hY s.os (a.take b)++hY s.os [a[b]])):=r4.mem (p:=(v4,hY s.os (a.take b)++hY s.os [a[b]])) (by simp);have aC:hY s.os (a.take (b+1))=hY s.os (a.take b)++hY s.os [a[b]]:=by rw[iz ar];simp only[hY,zX]
   have aQ:Hid ((hY s.os (a.take b)).length+(hY s.os [a[b]]).length=(hY s.os (a.take (b+1))).length):=eD (by rw[aC,fT]);rw[<-aC] at H;obtain⟨A4,c4,rfl⟩:=eR H;have a4:=u.ok.mem.size;have af:=u.grow HB H g4 (λk g=>h4.elim (λe=>.inl (e▸g)) (λe=>.inr (by rw[e] at g;injection g with g;omega))) (λx ho=>(O x ho).mono (λ_ hm=>gD _ hm));have aR:(gw s.os a).take b++[d.os[a[b]].id]=(gw s.os a).take (b+1):=by rw[aP,aO.out,iz (by omega)]
   rw[aR] at af;have aD:∀k,(Value.slice A4 (hY s.os (a.take (b+1))).length c4).ownBlock=some k->B<=k:=λk g=>by
    rcases h4 with e|e
    ·exact HB k (e▸g)
    ·rw[e] at g;injection g with g;omega
   have aE:Hid (∀c,eF o c->Pa w c G N B p s ex stk a (.slice (some (eJ k aN)) (gw s.os a).length n,eM (gw s.os a)) (b+1) (.slice A4 (hY s.os (a.take (b+1))).length c4)):=eD (λc X=>⟨A4,c4,_,rfl,af.ext X,aD⟩);have aF:Hid (eQ o w 108 i.toArray):=eD (ae.grown g4 (λe=>by obtain⟨a5,aS⟩:=lX (u.ok.mem.ints.mem (gT _ (gM ..))) e.symm;have:=ae.symm.trans aS;simp at this))
   clear r4 g4 h4 H af aD u aB ae;go_wp
   have ag:=eF.alloc o (eN #[eE 0,eE 0] 64);have ah:=eQ.new o 64 #[eE 0,eE 0];refine(I4 o 0 2 0 0 _ (ah.cell 0 rfl) (ah.cell 1 rfl)).mono ?_;rintro e w5 ⟨rfl,rfl⟩;have aT:=eD (aE _ ag);have aU:=eD (ag.eH aF);have aV:SH 0 0=0:=rfl;rw[aV];clear ag ah aE aF;generalize o.alloc (eN #[eE 0,eE 0] 64)=w5 at*;go_wp2;go_roundw
   case rel=>exact⟨b+1,by omega,by go_num,rfl,by rw[aQ];exact aT,aU⟩
   case measure=>simp[intOf];omega
  ·obtain rfl:b=a.length:=by omega
   have aW:Hid (oN w G N B p s ex stk a (fH (ij #[.slice S (hY s.os a).length T,eE 0])) wr):=eD (by rw[iT] at f A;rw[mZ (by rw[aL];exact fJ _)] at f;refine⟨S,T,d,rfl,{f with ok:=f.ok.OZ (List.Sublist.cons_cons _ (tm _ _)) (λq hq=> ?_)}⟩;obtain⟨q0,aX,e1,e2,e3,_⟩:=uU f.st hq;rw[<-e2,<-e3];exact(O q0 aX).mono (λ_ hm=>gD _ hm))
   clear f A t;go_wp
   refine(BG I wr).mono ?_;rintro e w6 ⟨rfl,rfl⟩;go_wp2;go_ret2
   exact aW
end
end
end
section
open Go.RowKit Go.Shelf Go.Sort
theorem zr{B g c:Nat}{l r:fS}{w:eI}(q:Nat)(own:w.ownsRow B 3 1 (fN g l c) l (ints l))(t:r.length<=l.length)(d:fS)(u:r.length+d.length=l.length):
 (putRow (λb:Int=>eE b) (Sort.ahead w q) g 0 (r++d).toArray).ownsRow B 3 1 (fN g r c) r (ints r)/\w.grownBy (putRow (λb:Int=>eE b) (Sort.ahead w q) g 0 (r++d).toArray) (some g):=by
 rcases own.2 with⟨h,_⟩|⟨v,x,i,j,k,m,y,n,o,z⟩
 ·cases h
 simp only[ml,fd,ny,gP,ky] at j;obtain⟨rfl,rfl⟩:=j;refine⟨⟨by simp[ints],.inr ⟨g,c,putCells (λb:Int=>eE b) 0 (r++d).toArray i,rfl,k, ?_,by omega,n,by simp[putCells,o], ?_⟩⟩,⟨rfl,rfl,rfl,by simp[Sort.ahead],λf a p=> ?_⟩⟩
 ·show(w.heap.modify g _)[g]? =_;rw[VX,fW rfl,m];rfl
 ·apply Dv;intro f;simp only[qP,putCells,Array.toList_mapIdx,Qy,List.getElem?_mapIdx,V7];by_cases a:f<r.length
  ·have s:f<i.size:=by omega
   rw[fW a,Vj s];simp[ints,a];rw[fW (by omega),qp a,gg a];rfl
  ·rw[fG a,tB (by simp[ints];omega)]
 ·show(w.heap.modify g _)[f]? =_;rw[VX,fG (λe=>p (by rw[e]))]
theorem Hb(a:eI)(b:eS)(c:Nat):Calls prog 278 #[.slice none 0 c,b] a λe d=>e=fH (eE (-1))/\d=a:=by
 go_in;go_wp2;repeat(refine wp_loop_rounds 1 ?_;rw[rounds_succ];go_wp2_with fail)
 go_ret;exact⟨rfl,rfl⟩
theorem Fl(a:eI)(c:eS)(b:Nat):Calls prog 199 #[.slice none 0 b,c] a λe d=>e=fH (.slice none 0 b)/\d=a:=by
 go_in;go_wp2_with fail
 refine(Hb _ _ _).mono ?_;rintro e f ⟨rfl,rfl⟩;go_wp2;go_ret;exact⟨rfl,rfl⟩
theorem Fm(b:Nat)(id c:Int)(a:eI)(h:a.cell? (eJ b 0)=some (eE id)):Calls prog 198 #[eE c,fw b] a λe d=>e=fH (fz (c==id))/\∃q,d=a.drewN q:=by go_in;go_wp2;go_ret;exact⟨rfl,0,rfl⟩
def Pf(B:Nat)(w:eI)(A:fE)(n c:Nat)(l:fS)(e:Ending)(w':eI):Prop:=e=fH (.slice A l c)/\w'.ownsRow B 3 1 (.slice A l c) l (ints l)/\w.grownBy w' (Value.slice A n c).ownBlock
theorem Pg{l:fS}{id:Int}(own:w.ownsRow n 3 1 (.slice A l k) l (ints l))(C:l.length<=1000)(b:w.cell? (eJ m 0)=some (eE id))(i:(Value.slice A l k).ownBlock≠some m):
 Calls prog 199 #[.slice A l k,.func (.func 198) #[] #[fw m]] w (Pf n w A l k (l.filter λa=> !(a==id))):=by
 rcases own.2 with⟨h,j⟩|⟨c,D,E,d,F,G,o,H,I,J⟩
 ·have p:l=[]:=by simpa using j
  subst p;cases h;refine(Fl _ _ _).mono ?_;rintro e s ⟨rfl,rfl⟩;exact⟨rfl,own,⟨rfl,rfl,rfl,fJ _,λ_ _ _=>rfl⟩⟩
 ·have K:=d;simp only[ml,ky] at d;obtain⟨rfl,rfl⟩:=d;have f:=js b;have t:m≠c:=λe=>i (by rw[e];rfl);have u:Holds (λa:Int=>eE a) w c 0 l.toArray:=λg v=>by
   have x:g<l.length:=by simpa using v
   have y:=own.cellAt g (by simp[ints];omega);rw[lH];refine⟨by rw[y];simp[ints,x],own.frozenAt _⟩
  refine(Tryz.slices_DeleteFunc (λa:Int=>eE a) (λ_=>rfl) (λa=>a==id) 198 #[fw m] (λ_ _=>by kernel_rfl) 0 (λ_=>by kernel_rfl) c 0 k l.toArray w (λz a B=> ?_) (λL M N a O=> ?_) u (by simp;omega) (by simpa using o)).mono ?_
  ·refine Fm m id a z ?_;rw[Ms (B.block m f)];exact b
  ·refine Fm m id a _ ?_;refine(Ms (Sort.heap_grow_old _ _ (by simpa[Sort.ahead] using f))).trans ?_;rw[cell?_putRow_other _ _ _ _ _ _ (.inl t)];exact b
  ·rintro e s ⟨rfl,q,rfl⟩;have h:=zr (r:=l.filter λa=> !(a==id)) q own (n8 _ _) (List.replicate (l.length- (l.filter λa=> !(a==id)).length) 0) (by have:=n8 (λa=> !(a==id)) l;simp;omega);exact⟨rfl,h.1,h.2⟩
theorem RG(l:fe)(id:Nat):(eM l).filter (λa=> !(a==(id:Int)))=eM (l.filter (· != id)):=by
 simp only[eM,OB];congr 1
 refine E3 λa _=> ?_;have:((a:Int)==(id:Int))=(a==id):=by rw[Qw];simp;omega
 simp only[Function.comp,this];rfl
theorem u2{l:fe}{id:Nat}(own:w.ownsRow n 3 1 (.slice A l k) l (ints (eM l)))(c:l.length<=1000)(d:w.cell? (eJ m 0)=some (eE (id:Nat)))(f:(Value.slice A l k).ownBlock≠some m):
 Calls prog 199 #[.slice A l k,.func (.func 198) #[] #[fw m]] w λe a=>e=fH (.slice A (l.filter (· != id)).length k)/\a.ownsRow n 3 1 (.slice A (l.filter (· != id)).length k) (l.filter (· != id)).length (ints (eM (l.filter (· != id))))/\w.grownBy a (Value.slice A l k).ownBlock:=by have h:=Pg (l:=eM l) (id:=(id:Int)) (by rw[fv];exact own) (by rw[fv];exact c) d (by rw[fv];exact f);rw[RG,fv] at h;refine h.mono ?_;rintro e a ⟨rfl,b,g⟩;rw[fv] at b ⊢;exact⟨rfl,b,g⟩
end
section
open Go.RowKit Go.Maps Go.Shelf Go.Sort
section
structure P9(w:eI)(p mw:Nat)(n:Nat)(D:DataW eS)(ks:fe)(f:Nat->Nat):Prop where
 eH:eQ w p 190 #[.map (some mw)]
 map:w.ownsMap prog 3 rV mw n D
 ok:rl D ks (λk=>eE (f k:Nat))
 no:∀k,k∉ks->f k=0
variable {p mw n:Nat} {D:DataW eS} {ks:fe} {f:Nat->Nat}
theorem P9.look(h:P9 w p mw n D ks f)(a:Nat)(c:a<=1000000):(Instr.lookup 190 (.map (some mw)) (eE (a:Nat)) false).run prog w=.ok (eE (f a:Nat)) w:=by
 by_cases b:a∈ks
 ·exact(sE h.map qI underlying190 (zeroValue3 w) (kZ _ (by omega)) (h.ok.at_ a b)).2
 ·rw[h.no a b];exact(uz h.map qI underlying190 (zeroValue3 w) (kZ _ (by omega)) (h.ok.no b)).2
theorem P9.grown{w w':eI}(h:P9 w p mw n D ks f){r:Option Nat}(g:w.grownBy w' r)(a:some p≠r)(b:some mw≠r):P9 w' p mw n D ks f:=
 {h with
  eH:=h.eH.grown g a
  map:=(CH.mono (L:=[]) (M:=r.toList) (fi.mono (fi.grown g) λc d=>(⟨eX _,.inr (by rw[<-d];simp)⟩:VD 0 [] r.toList w c)) (λ_ h=>h) (λ_ h=>h)).map h.map (λe=>b (by cases r with|none=>simp at e|some i=>simp at e;rw[e]))}
def Hc(f:Nat->Nat)(x y:Nat):Int:=SH ((f y:Int)- f x) ((x:Int)- y)
theorem xB(f:Nat->Nat)(a b:Nat):Hc f a b<0↔f b<f a\/f b=f a/\a<b:=by unfold Hc SH;split<;>omega
theorem Ph{w:eI}(h:P9 w p mw n D ks f)(c:∀d,f d<=1000000){a b:Nat}(g:a<=1000000)(i:b<=1000000):
 Calls prog 117 #[eE (a:Nat),eE (b:Nat),fw p] w λe w'=>e=fH (eE (Hc f a b))/\∃j,w'=w.alloc j:=by
 have r:=h.eH.ce 0 (.map (some mw));have k:=h.look a g;have l:=h.look b i;have f1:=c a;have f2:=c b;clear h c;go_in;go_wp2_with (first|(refine m l (by intro o;rfl) ?_)|(refine m k (by intro o;rfl) ?_))
 refine(Ry w 0 2 ((f b:Int)- f a) ((a:Int)- b) _ (by simp) (by simp)).mono ?_;rintro e w' ⟨rfl,rfl⟩;go_wp2;go_ret;exact⟨rfl,_,rfl⟩
abbrev F6:=Fin 1000001
def Fo(x:F6):eS:=eE (x.val:Nat)
def Ue(f:Nat->Nat)(x y:F6):Int:=Hc f x.val y.val
theorem VY(f:Nat->Nat):SWO (ltOf (Ue f)) where
 irrefl a:=by simp only[ltOf,Ue,xB,DO];omega
 trans a b c:=by simp only[ltOf,Ue,xB,jh];omega
 ntrans a b c:=by simp only[ltOf,Ue,xB,DO];omega
theorem RH(w:eI)(g:Nat)(a:Array F6):putRow Fo w g 0 a=putRow (λb:Int=>eE b) w g 0 (eM (a.toList.map Fin.val)).toArray:=by
 refine mapBlock_congr _ _ _ _ λf _ _ _=> ?_;apply Array.ext_getElem?;intro d;simp only[putCells,Array.getElem?_mapIdx];congr 1
 funext b
 by_cases c:d<a.size
 ·simp[eM,c,Fo]
 ·simp[eM,c]
theorem Lk(a:eI)(f:eS)(b:Nat):Calls prog 269 #[.slice none 0 b,eE 0,eE 0,f] a λe c=>e=fH (ij #[])/\c=a:=by
 go_in;go_wp2;refine wp_loop_rounds 1 ?_;rw[rounds_succ];go_wp2;go_end0
 exact⟨rfl,rfl⟩
theorem RI(a:eI)(f:eS)(b:Nat)(c:Int):Calls prog 193 #[.slice none 0 b,eE 0,eE 0,eE c,f] a λe d=>e=fH (ij #[])/\d=a:=by
 go_in;go_wp2;refine wp_loop_rounds 1 ?_;rw[rounds_succ];go_wp2_with fail
 refine(Lk _ _ _).mono ?_;rintro e g ⟨rfl,rfl⟩;go_wp2
 (try simp only[Exit.inBlock,Exit.then])
 refine iA (results_none rfl _ _ _) rfl ?_;exact⟨rfl,rfl⟩
theorem Pj(a:eI):Calls prog 135 #[.int .u64 0] a λe b=>e=fH (eE 0)/\b=a:=by have c:=Tryz.pM;have h:=Any.bits_Len (SlLaysF0.n15.bits (P:=prog) (ρ:=Tryz.pA) {c with}) 0 a (by omega) (by omega);exact h
theorem Pk(w:eI)(f:eS)(c:Nat):Calls prog 116 #[.slice none 0 c,f] w λe w'=>e=fH (ij #[])/\w'=w:=by
 go_in;go_wp2_with fail
 refine(Pj _).mono ?_;rintro e a ⟨rfl,rfl⟩;go_wp2_with fail
 refine(RI _ _ _ _).mono ?_;rintro e a ⟨rfl,rfl⟩;go_wp2;go_end0
 exact⟨rfl,rfl⟩
theorem Ll{w:eI}(h:P9 w p k n D ks f)(J:∀m,f m<=1000000){B c:Nat}{j:fE}{l:fe}(own:w.ownsRow B 3 1 (.slice j l c) l (ints (eM l)))(K:∀o∈l,o<=1000000)(hn:l.length<=1000)(L:some p≠(Value.slice j l c).ownBlock)(M:some k≠(Value.slice j l c).ownBlock):
 Calls prog 116 #[.slice j l c,.func (.func 117) #[] #[fw p]] w λe w'=>e=fH (ij #[])/\
  ∃x:fe,x.Perm l/\x.Pairwise (λN O=>¬Hc f O N<0)/\w'.ownsRow B 3 1 (.slice j l c) x (ints (eM x))/\w.grownBy w' (Value.slice j l c).ownBlock:=by
 rcases own.2 with⟨s,P⟩|⟨g,ag,ah,s,hg,Q,ai,aj,ak,al⟩
 ·have R:l=[]:=by simpa using P
  subst R;cases s;refine(Pk _ _ _).mono ?_;rintro e w' ⟨rfl,rfl⟩;exact⟨rfl,[],.refl _,.nil,own,⟨rfl,rfl,rfl,fJ _,λ_ _ _=>rfl⟩⟩
 ·have am:=s;simp only[ml,ky] at s;obtain⟨rfl,rfl⟩:=s;have S:=(LV.1 Q).1;let b:Array F6:=(l.map (Fin.ofNat _)).toArray
  have t:b.size=l.length:=by simp[b]
  have C:b.toList.map Fin.val=l:=by simp only[b,jL];refine(mP λo T=> ?_).trans (Ig _);have:=K o T;simp only[Function.comp,Fin.val_ofNat,id];exact ww (by omega)
  have U:Holds Fo w g 0 b:=λa u=>by
   have E:a<l.length:=by omega
   have y:=own.cellAt a (by omega);rw[lH];refine⟨?_,own.frozenAt _⟩;rw[y,Dr b a u];have:b[a].val=l[a]:=by have:=congrArg (λV=>V[a]?) C;simpa[E,u] using this
   simp[ints,eM,E,Fo,this]
  have F:∀(q:Nat) (z:Array F6) (i:Array Obj),w.grownBy (sortWorld Fo w g 0 q z i) (some g):=λq z i=>by refine⟨rfl,rfl,rfl,by simp[sortWorld,Sort.ahead],λm v W=> ?_⟩;refine(Sort.heap_grow_old _ _ (by simpa[Sort.ahead] using v)).trans ?_;show(w.heap.modify g _)[m]? =_;rw[VX,fG (λe=>W (by rw[e]))]
  refine(show Calls _ _ #[fN g l.length c,_] _ _ from ?_);rw[<-t];refine(Tryz.slices_SortFunc Fo (λ_=>rfl) (Ue f) (VY f) 117 #[fw p] g 0 c b w (enters_of func117 rfl rfl) (λq i z hd o X=> ?_) U S (by omega)).mono ?_
  ·refine(Ph (h.grown (F q z i) L M) J (by have:=o.2;omega) (by have:=X.2;omega)).mono ?_;rintro e w' ⟨rfl,Y,rfl⟩;exact⟨rfl,0,#[Y],by rw[alloc_eq_grow];rfl⟩
  ·rintro e w' ⟨rfl,d,q,i,Z,ad,rfl⟩;obtain⟨A,_,G⟩:=Z;rw[Wc (by omega),Wc (by omega)] at G;have ae:(d.toList.map Fin.val).length=l.length:=by simp[A,t]
   refine⟨rfl,d.toList.map Fin.val, ?_, ?_, ?_,F q d i⟩
   ·rw[<-C];exact G.map _
   ·rw[OM,jJ];intro H a hi u af;have:=ad H a (eX _) af (by simpa[A] using u);simpa[ltOf,Ue,Dr d H (by simpa using hi),Dr d a (by simpa using u)] using this
   ·have I:=zr (B:=B) (g:=g) (c:=c) (l:=eM l) (r:=eM (d.toList.map Fin.val)) (w:=w) q (by rw[fv];exact own) (by simp[eM,A,t]) [] (by simp[eM,A,t]);rw[ox,<-RH] at I;have y:=I.1;rw[fv] at y;rw[t,<-ae];exact((fi.grown (w:=putRow Fo (Sort.ahead w q) g 0 d) (w':=sortWorld Fo w g 0 q d i) (row:=none) ⟨rfl,rfl,rfl,by simp[sortWorld],λm v _=>Sort.heap_grow_old _ _ v⟩).ext (eF.refl _) (λm v=>by cases v)).own y
end
end
section
open Go.RowKit Go.Maps
section
def OV.wo(id:Nat)(o:OV):OV:={o with eP:=o.eP.filter (· != id),group:=o.group.filter (· != id)}
abbrev LS.u3(s:LS)(i:Nat)(rs:List Rg)(rv:eS)(id:Nat):LS:={s with rs:=rs,rv:=rv,os:=(s.os.eraseIdx i).map (OV.wo id),scope:=s.scope.filter (· != id),gF:=s.gF.filter (· != id)}
section
variable {w:eI} {G:Nat->fe} {N B p:Nat} {s:LS} {ex:List (eS×fS)} {stk:fS}
theorem gG.RJ(h:gG w G N B p s ex stk){i:Nat}(u:i<s.os.length){k:eI}{f:Nat}(z:f<s.rs.length)(A:s.rs[f].at_=s.os[i].base){v:eS}(C:it k B p (s.u3 i (s.rs.take f++s.rs.drop (f+1)) v s.os[i].id) ex)(D:CH B jz [] w k):
 gG k G N B p (s.u3 i (s.rs.take f++s.rs.drop (f+1)) v s.os[i].id) ex stk:=by
 have gO:(s.os.map OV.id).Nodup:=by rw[<-jD];exact h.ids
 have l:∀b∈(s.os.eraseIdx i).map (OV.wo s.os[i].id),∃a,∃c:a<s.os.length,a≠i/\b=OV.wo s.os[i].id s.os[a]:=λb d=>by obtain⟨q,j,rfl⟩:=fy.1 d;obtain⟨a,c,g,rfl⟩:=SO.1 j;exact⟨a,c,g,rfl⟩
 have x:∀q∈s.os,q.id≠s.os[i].id->OV.wo s.os[i].id q∈(s.os.eraseIdx i).map (OV.wo s.os[i].id):=λq j g=>by obtain⟨a,c,rfl⟩:=gN j;exact fy.2 ⟨_,SO.2 ⟨a,c,λe=>g (by subst e;rfl),rfl⟩,rfl⟩
 have m:((s.os.eraseIdx i).map (OV.wo s.os[i].id)).map OV.base=(s.os.eraseIdx i).map OV.base/\((s.os.eraseIdx i).map (OV.wo s.os[i].id)).map OV.id=(s.os.eraseIdx i).map OV.id/\((s.os.eraseIdx i).map (OV.wo s.os[i].id)).map OV.fQ=(s.os.eraseIdx i).map OV.fQ:=by simp only[jL];exact⟨rfl,rfl,rfl⟩
 refine⟨C,λb d=> ?_, ?_,h.fs, ?_, ?_,h.up,h.n12,h.g8,h.yE,h.uI,h.LX.filter _,λn o=> ?_,λb d n o=> ?_,eY (n8 _ _) h.Nf,h.iQ⟩
 ·obtain⟨a,c,_,rfl⟩:=l b d;have:=(h.each _ (eU c)).ch D (λ_ h=>h);exact⟨this.fQ,this.im,this.tZ,this.rows,this.id,eY (n8 _ _) this.iO,eY (n8 _ _) this.ms⟩
 ·refine h.rg.nS u z A _ (λb d=> ?_) ?_ ?_
  ·obtain⟨a,c,g,rfl⟩:=l b d;exact⟨a,c,g,rfl,rfl⟩
  ·rw[m.1];exact h.rg.yD.sublist ((Ro _ _).map _)
  ·rw[gW,Pm,fW u];omega
 ·rw[jD];show(((s.os.eraseIdx i).map (OV.wo s.os[i].id)).map OV.id).Nodup;rw[m.2.1];exact gO.sublist ((Ro _ _).map _)
 ·rw[sI];show(((s.os.eraseIdx i).map (OV.wo s.os[i].id)).map OV.fQ).Nodup;rw[m.2.2];have:=h.qy;rw[sI] at this;exact this.sublist ((Ro _ _).map _)
 ·obtain⟨r,t⟩:=jb.1 o;obtain⟨b,d,y,E⟩:=h.J6 n r;exact⟨_,x b d (by rw[y];simpa using t),y,E⟩
 ·obtain⟨a,c,g,rfl⟩:=l b d;obtain⟨r,t⟩:=jb.1 o;obtain⟨q,j,e⟩:=h.Gy _ (eU c) n r;exact⟨_,x q j (by rw[e];simpa using t),e⟩
end
end
section
section
variable {w w':eI} {G:Nat->fe} {N B p:Nat} {s:LS} {ex:List (eS×fS)} {stk:fS}
theorem CW(a:fE)(c d b:Nat):(Value.slice a c b).ownBlock=(Value.slice a d b).ownBlock:=by cases a<;>rfl
theorem u4(b:fo 0 w (kB++(.slice A n m,kM)::kC))(d:∀a,(Value.slice A n m).ownBlock=some a->B<=a){f:Nat}(g:w'.ownsRow f 3 1 (.slice A k m) k (ints kN))(i:k=kN.length)(c:w.grownBy w' (Value.slice A n m).ownBlock):
 fo 0 w' (kB++(.slice A k m,kN)::kC)/\CH B [3] [] w w':=by subst i;exact⟨b.swap (fq g (eX _)) c (λa j=>.inl (by rw[CW A n kN.length m];exact j)),CH.grown c (qE (b.mem (gT _ (gM ..))) d) (by simp)⟩
theorem Hd(a:List OV)(b:Nat):(la a).take (b*27)++(la a).drop ((b+1)*27)=la (a.eraseIdx b):=by rw[qt gx,qr gx,<-hZ,Ty]
theorem RK(h:it w B p s ex){i:Nat}(j:i<s.os.length){a:Nat}(c:s.oA=some (eJ a 0)){b:Nat}(z:s.os.length=b+1)(k:w'.ownsRow B 177 27 (fN a b s.oc) b ((la s.os).take (i*27)++(la s.os).drop ((i+1)*27)))(r:w.grownBy w' (some a)):
 it (w'.setCell (eJ p 6) (fN a b s.oc)) B p (s.jg (s.os.eraseIdx i)) ex/\CH B jz [] w (w'.setCell (eJ p 6) (fN a b s.oc))/\eQ w' p 97 s.cells:=by
 have l:=h.row;rw[c] at l;have d:CH B [177] [] w w':=CH.grown (v:=fN a s.os.length s.oc) r l (by simp);have f:=d.eH h.eH;have g:CH B [97] [] w' (w'.setCell (eJ p 6) (fN a b s.oc)):=CH.set f h.low (by simp) 6 _;have m:CH B lB [] w (w'.setCell (eJ p 6) (fN a b s.oc)):=(d.mono (by decide) (λ_ h=>h)).fk (g.mono (by decide) (λ_ h=>h));have n:(s.os.eraseIdx i).length=b:=by rw[Pm,fW j];omega
 have o:(s.jg (s.os.eraseIdx i)).rows.Sublist s.rows:=by
  simp only[LS.rows,LS.jg,LS.re];refine List.Sublist.cons_cons _ (List.Sublist.cons_cons _ ?_);rw[Ty,zX];conv=>rhs;rw[<-oa i s.os,sN j,zX,oz]
  exact(DM _).append (Oi _ _)
 refine⟨h.km m (λ_ h=>h) ?_ ?_ ?_ ?_,m.mono lB.sub (λ_ h=>h),f⟩
 ·have:=eQ.set f 6 (fN a b s.oc);simpa[LS.cells,n,c] using this
 ·rw[Hd] at k;have:=g.own k;rw[c,n];exact this
 ·exact(((h.ints.ch d).ch g).sub (o.append (DM _)))
 ·intro t u;obtain⟨x,y,e⟩:=fu.1 u;exact h.ku t (fu.2 ⟨x,o.subset y,e⟩)
theorem RL(h:it w B p s ex){id:Nat}{d a:eI}{m n:Nat}(o:d.ownsRow m 3 1 (.slice s.sA (s.scope.filter (· != id)).length s.sc) (s.scope.filter (· != id)).length (ints (eM (s.scope.filter (· != id)))))(r:w.grownBy d (Value.slice s.sA s.scope s.sc).ownBlock)(t:a.ownsRow n 3 1 (.slice s.lA (s.gF.filter (· != id)).length s.lc) (s.gF.filter (· != id)).length (ints (eM (s.gF.filter (· != id)))))(u:d.grownBy a (Value.slice s.lA s.gF s.lc).ownBlock):
 it ((a.setCell (eJ p 7) (.slice s.sA (s.scope.filter (· != id)).length s.sc)).setCell (eJ p 10) (.slice s.lA (s.gF.filter (· != id)).length s.lc)) B p {s with scope:=s.scope.filter (· != id),gF:=s.gF.filter (· != id)} ex/\
  CH B jz [] w ((a.setCell (eJ p 7) (.slice s.sA (s.scope.filter (· != id)).length s.sc)).setCell (eJ p 10) (.slice s.lA (s.gF.filter (· != id)).length s.lc))/\eQ a p 97 s.cells:=by
 have v:fo 0 w ([]++s.mz::(s.nD::(s.os.flatMap OV.rows++ex))):=by simpa[LS.rows] using h.ints
 obtain⟨x,y⟩:=u4 (B:=B) v (λb c=>h.ku b (fu.2 ⟨s.mz,by simp[LS.rows],c⟩)) o (fv _).symm r;have z:fo 0 d ([(.slice s.sA (s.scope.filter (· != id)).length s.sc,eM (s.scope.filter (· != id)))]++s.nD::(s.os.flatMap OV.rows++ex)):=by simpa using x
 obtain⟨A,C⟩:=u4 (B:=B) z (λb c=>h.ku b (fu.2 ⟨s.nD,by simp[LS.rows],c⟩)) t (fv _).symm u;have g:=y.fk C;have i:=g.eH h.eH;have k:=eQ.set i 7 (.slice s.sA (s.scope.filter (· != id)).length s.sc);have D:CH B [97] [] a (a.setCell (eJ p 7) (.slice s.sA (s.scope.filter (· != id)).length s.sc)):=CH.set i h.low (by simp) 7 _;have E:CH B [97] [] _ ((a.setCell (eJ p 7) (.slice s.sA (s.scope.filter (· != id)).length s.sc)).setCell (eJ p 10) (.slice s.lA (s.gF.filter (· != id)).length s.lc)):=CH.set k h.low (by simp) 10 _;have j:=D.fk E;have l:CH B lB [] w ((a.setCell (eJ p 7) (.slice s.sA (s.scope.filter (· != id)).length s.sc)).setCell (eJ p 10) (.slice s.lA (s.gF.filter (· != id)).length s.lc)):=(g.mono (by decide) (λ_ h=>h)).fk (j.mono (by decide) (λ_ h=>h));refine⟨h.km (oA:=s.oA) (oc:=s.oc) (os:=s.os) (sA:=s.sA) (sc:=s.sc) (scope:=s.scope.filter (· != id)) (last:=s.last) (inits:=s.inits) (lA:=s.lA) (lc:=s.lc) (gF:=s.gF.filter (· != id)) l (λ_ h=>h) ?_ ?_ ?_ ?_,l.mono lB.sub (λ_ h=>h),i⟩
 ·have:=eQ.set k 10 (.slice s.lA (s.gF.filter (· != id)).length s.lc);simpa[LS.cells] using this
 ·exact j.own (g.own h.row)
 ·have:=A.ch j;simpa[LS.rows,LS.mz,LS.nD] using this
 ·intro b c;obtain⟨F,f,e⟩:=fu.1 c;simp only[LS.rows,LS.re,fm] at f;rcases f with rfl|rfl|f
  ·exact h.ku b (fu.2 ⟨s.mz,by simp[LS.rows],(CW _ _ _ _).trans e⟩)
  ·exact h.ku b (fu.2 ⟨s.nD,by simp[LS.rows],(CW _ _ _ _).trans e⟩)
  ·exact h.ku b (fu.2 ⟨F,by simp[LS.rows,f],e⟩)
theorem RM(h:it w B p s ex){a id:Nat}(f:eQ w a 3 #[eE (id:Nat)])(b:∀k∈iG s.rows,k<a)(g:s.scope.length<=1000/\s.gF.length<=1000):
 (Calls prog 199 #[.slice s.sA s.scope s.sc,.func (.func 198) #[] #[fw a]] w λe w'=>e=fH (.slice s.sA (s.scope.filter (· != id)).length s.sc)/\w'.ownsRow 0 3 1 (.slice s.sA (s.scope.filter (· != id)).length s.sc) (s.scope.filter (· != id)).length (ints (eM (s.scope.filter (· != id))))/\w.grownBy w' (Value.slice s.sA s.scope s.sc).ownBlock)/\
 (∀v,w.grownBy v (Value.slice s.sA s.scope s.sc).ownBlock->eQ v p 97 s.cells/\Calls prog 199 #[.slice s.lA s.gF s.lc,.func (.func 198) #[] #[fw a]] v λe w'=>e=fH (.slice s.lA (s.gF.filter (· != id)).length s.lc)/\w'.ownsRow 0 3 1 (.slice s.lA (s.gF.filter (· != id)).length s.lc) (s.gF.filter (· != id)).length (ints (eM (s.gF.filter (· != id))))/\v.grownBy w' (Value.slice s.lA s.gF s.lc).ownBlock):=by
 have c:s.mz∈s.rows:=by simp[LS.rows]
 have i:s.nD∈s.rows:=by simp[LS.rows]
 have j:w.ownsRow 0 3 1 (.slice s.sA s.scope.length s.sc) s.scope.length (ints (eM s.scope)):=by have:=h.ints.mem (iL _ c);simp only[LS.mz,fv] at this;exact this
 have l:w.ownsRow 0 3 1 (.slice s.lA s.gF.length s.lc) s.gF.length (ints (eM s.gF)):=by have:=h.ints.mem (iL _ i);simp only[LS.nD,fv] at this;exact this
 refine⟨u2 j g.1 (f.cell 0 rfl) (λe=>tr _ (b _ (fu.2 ⟨_,c,e⟩))),λv d=>⟨h.eH.grown d (λe=> ?_),u2 ((fi.grown d).own l (λk m e=> ?_)) g.2 ((f.grown d (λe=>tr _ (b _ (fu.2 ⟨_,c,e.symm⟩)))).cell 0 rfl) (λe=>tr _ (b _ (fu.2 ⟨_,i,e⟩)))⟩⟩
 ·obtain⟨o,n⟩:=lX j e.symm;have:=h.eH.symm.trans n;simp at this
 ·have:=h.ints.pX 0 1 s.mz s.nD k (by simp[LS.rows]) (by simp[LS.rows]) e.symm m;omega
theorem TQ(h:it w B p s ex){i:Nat}(g:i<s.os.length){c:Nat}(t:s.oA=some (eJ c 0)){id:Nat}{k l:eI}{x y:Nat}(z:k.ownsRow x 3 1 (.slice s.os[i].gA (s.os[i].group.filter (· != id)).length s.os[i].gc) (s.os[i].group.filter (· != id)).length (ints (eM (s.os[i].group.filter (· != id)))))(A:w.grownBy k (Value.slice s.os[i].gA s.os[i].group.length s.os[i].gc).ownBlock)(C:l.ownsRow y 3 1 (.slice s.os[i].nA (s.os[i].eP.filter (· != id)).length s.os[i].nc) (s.os[i].eP.filter (· != id)).length (ints (eM (s.os[i].eP.filter (· != id)))))(D:k.grownBy l (Value.slice s.os[i].nA s.os[i].eP.length s.os[i].nc).ownBlock):
 it (((l.setCell (eJ c (i*27+24)) (.slice s.os[i].gA (s.os[i].group.filter (· != id)).length s.os[i].gc)).setCell (eJ c (i*27+22)) (.slice s.os[i].nA (s.os[i].eP.filter (· != id)).length s.os[i].nc)).setCell (eJ c (i*27+23)) (eW)) B p (s.jg (s.os.set i (s.os[i].wo id))) ex/\
  CH B jz [] w (((l.setCell (eJ c (i*27+24)) (.slice s.os[i].gA (s.os[i].group.filter (· != id)).length s.os[i].gc)).setCell (eJ c (i*27+22)) (.slice s.os[i].nA (s.os[i].eP.filter (· != id)).length s.os[i].nc)).setCell (eJ c (i*27+23)) (eW)):=by
 have d:=nu s g;have E:fo 0 w (((s.mz::s.nD::(s.os.take i).flatMap OV.rows)++[s.os[i].nf])++s.os[i].m6::((s.os.drop (i+1)).flatMap OV.rows++ex)):=by have:=h.ints;rw[d] at this;simpa using this
 have j:∀f,f∈s.rows->∀b,f.1.ownBlock=some b->B<=b:=λf a b m=>h.ku b (fu.2 ⟨f,a,m⟩);obtain⟨u,F⟩:=u4 (B:=B) E (j s.os[i].m6 (by rw[d];exact gT _ (gD _ (gM ..)))) z (fv _).symm A;have G:fo 0 k ((s.mz::s.nD::(s.os.take i).flatMap OV.rows)++s.os[i].nf::((s.os[i].wo id).m6::((s.os.drop (i+1)).flatMap OV.rows++ex))):=by rw[iK] at u;exact u
 obtain⟨H,I⟩:=u4 (B:=B) G (j s.os[i].nf (by rw[d];exact gT _ (gM ..))) C (fv _).symm D;have n:=F.fk I;have o:=n.own h.row;rw[t] at o;have t1:=o.stored (i*27+24) (.slice s.os[i].gA (s.os[i].group.filter (· != id)).length s.os[i].gc);rw[m' gx s.os i 24 g (by omega) {s.os[i] with group:=s.os[i].group.filter (· != id)} _ rfl] at t1;have J:=CH.pD o (L:=[177]) (M:=[]) (by simp) (i*27+24) (.slice s.os[i].gA (s.os[i].group.filter (· != id)).length s.os[i].gc);have t2:=t1.1.stored (i*27+22) (.slice s.os[i].nA (s.os[i].eP.filter (· != id)).length s.os[i].nc);rw[m' gx _ i 22 (by simpa using g) (by omega) (s.os[i].wo id) _ (by rw[Ax];rfl),IX] at t2;have K:=CH.pD t1.1 (L:=[177]) (M:=[]) (by simp) (i*27+22) (.slice s.os[i].nA (s.os[i].eP.filter (· != id)).length s.os[i].nc);have t3:=t2.1.stored (i*27+23) (eW);rw[m' gx _ i 23 (by simpa using g) (by omega) (s.os[i].wo id) _ (by rw[Ax];rfl),IX] at t3;have N:=CH.pD t2.1 (L:=[177]) (M:=[]) (by simp) (i*27+23) (eW);have r:=(J.fk K).fk N;have v:CH B lB [] w _:=(n.mono (by decide) (λ_ h=>h)).fk (r.mono (by decide) (λ_ h=>h));refine⟨h.km v (λ_ h=>h) ?_ ?_ ?_ ?_,v.mono lB.sub (λ_ h=>h)⟩
 ·have:=r.eH (n.eH h.eH);simpa[LS.cells] using this
 ·rw[t,nZ];exact t3.1
 ·have:=H.ch r;have e:=pe s g (s.os[i].wo id);show fo 0 _ ((s.jg (s.os.set i (s.os[i].wo id))).rows++ex);rw[e,iK];exact this
 ·intro b m;obtain⟨f,a,e⟩:=fu.1 m;rw[pe s g (s.os[i].wo id)] at a;rcases gu.1 a with a|a
  ·exact j f (by rw[d];exact iL _ a) b e
  ·rcases fm.1 a with rfl|a
   ·exact j _ (by rw[d];exact gT _ (gM ..)) b ((CW _ _ _ _).trans e)
   ·rcases fm.1 a with rfl|a
    ·exact j _ (by rw[d];exact gT _ (gD _ (gM ..))) b ((CW _ _ _ _).trans e)
    ·exact j f (by rw[d];exact gT _ (gD _ (gD _ a))) b e
theorem TR(h:it w B p s ex){i:Nat}(I:i<s.os.length){b id:Nat}(o:eQ w b 3 #[eE (id:Nat)])(c:∀k∈iG s.rows,k<b)(r:s.os[i].group.length<=1000/\s.os[i].eP.length<=1000):
 (Calls prog 199 #[.slice s.os[i].gA s.os[i].group.length s.os[i].gc,.func (.func 198) #[] #[fw b]] w λe w'=>e=fH (.slice s.os[i].gA (s.os[i].group.filter (· != id)).length s.os[i].gc)/\w'.ownsRow 0 3 1 (.slice s.os[i].gA (s.os[i].group.filter (· != id)).length s.os[i].gc) (s.os[i].group.filter (· != id)).length (ints (eM (s.os[i].group.filter (· != id))))/\w.grownBy w' (Value.slice s.os[i].gA s.os[i].group.length s.os[i].gc).ownBlock)/\
 (∀v,w.grownBy v (Value.slice s.os[i].gA s.os[i].group.length s.os[i].gc).ownBlock->v.ownsRow B 177 27 (.slice s.oA s.os s.oc) s.os (la s.os)/\(Calls prog 199 #[.slice s.os[i].nA s.os[i].eP.length s.os[i].nc,.func (.func 198) #[] #[fw b]] v λe w'=>e=fH (.slice s.os[i].nA (s.os[i].eP.filter (· != id)).length s.os[i].nc)/\w'.ownsRow 0 3 1 (.slice s.os[i].nA (s.os[i].eP.filter (· != id)).length s.os[i].nc) (s.os[i].eP.filter (· != id)).length (ints (eM (s.os[i].eP.filter (· != id))))/\v.grownBy w' (Value.slice s.os[i].nA s.os[i].eP.length s.os[i].nc).ownBlock)/\
   ∀d,v.grownBy d (Value.slice s.os[i].nA s.os[i].eP.length s.os[i].nc).ownBlock->d.ownsRow B 177 27 (.slice s.oA s.os s.oc) s.os (la s.os)/\eQ d b 3 #[eE (id:Nat)]):=by
 have f:=nu s I;have g:s.os[i].m6∈s.rows:=by rw[f];exact gT _ (gD _ (gM ..))
 have j:s.os[i].nf∈s.rows:=by rw[f];exact gT _ (gM ..)
 have t:w.ownsRow 0 3 1 (.slice s.os[i].gA s.os[i].group.length s.os[i].gc) s.os[i].group.length (ints (eM s.os[i].group)):=by have:=h.ints.mem (iL _ g);simp only[OV.m6,fv] at this;exact this
 have J:w.ownsRow 0 3 1 (.slice s.os[i].nA s.os[i].eP.length s.os[i].nc) s.os[i].eP.length (ints (eM s.os[i].eP)):=by have:=h.ints.mem (iL _ j);simp only[OV.nf,fv] at this;exact this
 have u:∀(K:ik) (x:fY) (v:eS) (y:Nat) (l:eI),l.ownsRow 0 3 1 v y x->∀z A,l.ownsRow B 177 27 (.slice s.oA s.os.length s.oc) A z->∀k,(Value.slice s.oA s.os.length s.oc).ownBlock=some k->¬some k=v.ownBlock:=λK x v y l L z A M k a e=>by obtain⟨O,N⟩:=lX L e.symm;obtain⟨P,C⟩:=lX M a;rw[N] at C;simp at C
 have D:=h.row;refine⟨u2 t r.1 (o.cell 0 rfl) (λe=>tr _ (c _ (fu.2 ⟨_,g,e⟩))),λv m=> ?_⟩;have E:=(fi.grown m).own J (λk a e=>by have F:=h.ints;rw[f] at F;have:=F.pX (s.mz::s.nD::(s.os.take i).flatMap OV.rows).length ((s.mz::s.nD::(s.os.take i).flatMap OV.rows).length+1) s.os[i].nf s.os[i].m6 k (by simp) (by simp) a e.symm;omega)
 have n:=(fi.grown m).own D (λk a e=>u 0 _ _ _ w t _ _ D k a e);have G:=o.grown m (λe=>tr _ (c _ (fu.2 ⟨_,g,e.symm⟩)));refine⟨n,u2 E r.2 (G.cell 0 rfl) (λe=>tr _ (c _ (fu.2 ⟨_,j,e⟩))),λd H=>⟨(fi.grown H).own n (λk a e=>u 0 _ _ _ v E _ _ n k a e),G.grown H (λe=>tr _ (c _ (fu.2 ⟨_,j,e.symm⟩)))⟩⟩
theorem qg{os:List OV}(a:w.ownsRow B 177 27 (fN n k m) k (la os)){i:Nat}(b:i<os.length){j:Nat}(c:j<27){v:eS}(d:(OV.eL os[i])[j]? =some v):w.cell? (eJ n (i*27+j))=some v/\w.frozen? (eJ n (i*27+j))=false:=by have f:=a.1;rw[kU gx] at f;exact⟨by rw[a.cellAt (i*27+j) (by omega),iI gx os i j b c];exact d,a.frozenAt _⟩
theorem RO(os:List OV)(id:Nat){k:Nat}(a:k<os.length):((os.take k).map (OV.wo id)++os.drop k).set k (os[k].wo id)=(os.take (k+1)).map (OV.wo id)++os.drop (k+1):=by
 have b:((os.take k).map (OV.wo id)).length=k:=by simp;omega
 rw[yj _ _ (by omega),b,qW,sN a,AJ,iz a,iC];simp
theorem UZ(os:List OV)(id:Nat){k:Nat}(a:k<os.length)(b:k<((os.take k).map (OV.wo id)++os.drop k).length):((os.take k).map (OV.wo id)++os.drop k)[k]=os[k]:=by rw[Ec (by simp;omega)];simp[lK (lN a)]
end
end
