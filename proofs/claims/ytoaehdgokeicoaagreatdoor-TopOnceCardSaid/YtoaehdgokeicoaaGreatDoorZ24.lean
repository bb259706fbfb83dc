/- TopOnce: part 24 of the proof. -/
import Derived.Test.YtoaehdgokeicoaaGreatDoorZ15
set_option maxRecDepth 100000
set_option maxHeartbeats 30000000
set_option linter.all false
namespace Go.Proofs.YtoaehdgokeicoaaGreatDoor
open K9 Z9 Go.Proofs.Tryz
section
variable{w v u W V U:eI}{n k m i j p b c d g N B K G M:Nat}{x y z X Y Z:eS}{D E F:Int}{A C H I:fE}{l L J T:fY}{r s t R S:fe}{f:ik}{a:Act}{O Q:List Oper}{kE:Oper}{kG:Array Oper}
section
open Go.RowKit Pl
section
theorem Ac:(prog.info? 174).map (λa=>(a.zero,a.size,a.bytes))=some (some (.agg #[.string ⟨#[]⟩,.int .i64 0,.slice none 0 0,.slice none 0 0,.slice none 0 0,.slice none 0 0,.slice none 0 0,.slice none 0 0,.int .i64 0,.slice none 0 0,.slice none 0 0,.slice none 0 0,.slice none 0 0,.slice none 0 0,.int .i64 0]),15,304):=by kernel_rfl
theorem PJ{rest:List Oper}{o:Exit->Act->eI->Prop}(r:kE.guard=none)(i j:Operand)(s:kE.op=.call {callee:=.builtin .append,args:=#[i,j],argTypes:=#[301,301]}){b:eS}{f:Nat}{k:fY}(h:w.ownsRow n 174 15 b f k)(t:n<=w.heap.size)(u:a.eval i=b)(l:fE)(p:Nat)(c:fY)(d:Nat)(v:a.eval j=.slice l d p)(x:c.length=d*15)(y:Rd w l c)(z:∀A∈c,A.oneCell'=true)(H:f+d<=1000000)(B:∀g m,m.ownsRow n 174 15 g (f+d) (k++c)->w.grownBy m b.ownBlock->(g.ownBlock=b.ownBlock\/g.ownBlock=some w.heap.size)->wpList prog kG o rest (a.put kE.dst g) m):wpList prog kG o (kE::rest) a w:=by obtain⟨C,D,E,F,G⟩:=info_parts Ac;exact fB r i j 301 s n 174 C _ 15 304 underlying301 D E F G rfl (by omega) b f k u h l p c d v x y z (by unfold maxLen;omega) (by omega) t B
theorem LB{rest:List Oper}{o:Exit->Act->eI->Prop}(r:kE.guard=none)(j k:Operand)(s:kE.op=.call {callee:=.builtin .append,args:=#[j,k],argTypes:=#[301,301]}){g:eS}{l:Nat}{p:fY}(h:w.ownsRow n 174 15 g l p)(C:n<=w.heap.size)(t:a.eval j=g)(b:fY)(u:a.eval k=fN w 1 1)(v:b.length=15)(x:∀y∈b,y.oneCell'=true)(D:l<1000000)(z:∀c d,d.ownsRow n 174 15 c (l+1) (p++b)->(w.alloc (eN b.toArray 174)).grownBy d g.ownBlock->(∀i,c.ownBlock=some i->g.ownBlock=some i\/w.heap.size<=i)->wpList prog kG o rest (a.put kE.dst c) d):wpList prog kG o (kE::rest) a (w.alloc (eN b.toArray 174)):=
 PJ r j k s ((eF.alloc _ _).own h) (by rw[fM];omega) t _ 1 b 1 u (by simpa using v) (by simpa using ip w b.toArray _) x (by omega) λc d A B f=>z c d A B λi m=>by
  rcases f with f|f
  ·exact .inl (f▸m)
  ·rw[f] at m;simp only[fM,fd] at m;exact .inr (by omega)
theorem C1{b:Func}{c q r d:Tmp}(h:b.results=#[.tmp c,.tmp q,.cell r f,.tmp d]){a:kx}{P:Program}{w:eI}{g:Addr}{i:eS}(j:a.getD r undef=.pointer (some g))(k:(loadVar f g).run P w=.ok i w):(results b a).run P w=.ok (ij #[a.getD c undef,a.getD q undef,i,a.getD d undef]) w:=by simp only[Sl] at j;simp only[results,h];simp[Result.andThen,j,k,asAddr]
theorem Jb(r:iV):∀a∈r.eL,a.oneCell'=true:=by simp[iV.eL,Value.oneCell']
theorem PK(a:Im):∀b∈a.eL,b.oneCell'=true:=by simp[Im.eL,Value.oneCell']
def RV(w:eI)(e:Ending)(w':eI):Prop:=∃v,e=fH (ij #[fV #[eE 0,eE 0,fz true],v])/\eF w w'
theorem T0{w:eI}{B:Nat}{r:iV}{m:Im}{g c:Nat}(A:w.ownsRow B 174 15 (fN g 1 c) 1 m.eL)(f:r.Fit)(C:m.t.In w)(D:zD w m.SA m.l)(hl:m.l.length<=1000)(hb:m.t.bs.length<=1000)(hf:(wC m.t r m.l).1=0):
 Calls prog 124 #[fV r.eL.toArray,eE (-1),fN g 1 c] w (RV w):=by
 obtain⟨i0,ad,ae,af,ag⟩:=info_parts x7;have ah:∀a:eI,(Instr.makeSlice 298 (eE 1) (eE 1)).run prog a=.ok (fN a 1 1) (a.alloc (eN #[eE 0] 3)):=λa=>by have f:=yf (P:=prog) a 298 3 i0 (eE 0) underlying298 ad ae .i64 .i64 1 1 (by omega) (by omega) (by rw[ag];omega) (by omega);have e:madeCells #[Value.int .i64 0] 1=#[Value.int .i64 0]:=Mr.1 (by rw[wI];rfl);rw[f,af,qP];show Result.ok (Value.slice (some ⟨a.heap.size,0,none⟩) 1 1) (a.alloc (.cells (madeCells #[Value.int .i64 0] 1) 3))=_;rw[e]
 have n:=eD (λE (F:eF w E)=>MA m.t r m.SA m.sc m.l E (C.ext F) f (D.ext F) (by omega) (by omega));rw[hf] at n;have ai:=eD (Rd.gY A);have G:=eD (eQ.new w 118 r.eL.toArray);have i:=eD (eQ.new (w.alloc (eN r.eL.toArray 118)) 297 #[eE 0,eE 0,fz false]);have o:=eD ((eF.alloc w (eN r.eL.toArray 118)).trans (eF.alloc _ (eN #[eE 0,eE 0,fz false] 297)));have p:=eD (eF.alloc (w.alloc (eN r.eL.toArray 118)) (eN #[eE 0,eE 0,fz false] 297));rw[fM] at i;clear A C D f;go_in;go_wp
 obtain⟨b,s⟩:∃b,b=(w.alloc (eN r.eL.toArray 118)).alloc (eN #[eE 0,eE 0,fz false] 297):=⟨_,rfl⟩;rw[<-s] at o p i ⊢;have aj:b.heap.size=w.heap.size+1+1:=by rw[s];simp
 have H:=eD (p.eH G);clear s;have j:=eF.alloc b (eN #[eE 0] 3);have t:=eQ.new b 3 #[eE 0];rw[aj] at t;generalize b.alloc (eN #[eE 0] 3)=u at*;have v:=eD (o.trans j);have I:=eD (j.eH i);have J:=eD (j.eH H);have K:=eD t;have L:=eD (jo (P:=prog) u g 0 174 m.eL _ (λak hj=>by obtain⟨ao,ap,M,h2⟩:=ai ak hj;simp only[fd,ny,gP] at M;obtain⟨rfl,rfl⟩:=M;exact v.cell h2) underlying174 rfl (by kernel_rfl))
 have N:=eQ.new u 174 rp;clear j t o p i G H ah;refine wp_loop_rounds 2 ?_;rw[rounds_succ];go_wp2_with (first|(refine eK rfl 174 (.tmp 21) rfl _ rfl (fV m.eL.toArray) L ?_)|(refine eG rfl 174 (.tmp 10) (.tmp 22) rfl u rfl m.eL rfl N (PK m) (by kernel_rfl) (by rfl) ?_))
 intro w3 x O;have d:=(fi.grown O).ext (eF.alloc _ _);have y:=eD (v.trans d);have Q:=eD (d.eH I);have R:=eD (d.eH K);have S:=eD ((d.eH J).fK (P:=prog) 118 _ underlying118 rfl (by kernel_rfl));have T:=eD (x.load (P:=prog) 170 6 m.t.eL rfl _ underlying170 rfl (by kernel_rfl));have d5:=x.ce 5 (.slice m.SA m.l.length m.sc);clear N x O d v I J K L;go_wp2_with (first|(refine eK rfl 170 (.tmp 27) rfl _ rfl (fV m.t.eL.toArray) T ?_)|(refine eK rfl 118 (.tmp 3) rfl _ rfl (fV r.eL.toArray) S ?_))
 refine(n w3 y).mono ?_;rintro e z ⟨rfl,k⟩;have U:=eD (y.trans k);have V:=eD (k.eH Q);have l:=k.eH R;have n4:=l.ce 0 (eE 0);have al:=l.frozen 0;have W:CH 0 [3] [] z (z.setCell (eJ (w.heap.size+1+1) 0) (eE ((wC m.t r m.l).2:Nat))):=CH.set l (eX _) (by simp) 0 _;have X:=eD (W.eH V);have Y:=eD ((fi.set z (w.heap.size+1+1) 0 (eE ((wC m.t r m.l).2:Nat))).ext U (λaq hz=>by subst hz;omega));clear d5 k y Q R S T n l W V U;go_wp2_with (refine eG rfl 297 (.tmp 6) (.tmp 43) rfl (w.heap.size+1) rfl [eE 0,eE 0,fz true] rfl X (by simp[Value.oneCell']) (by kernel_rfl) (by rfl) ?_)
 intro w6 Z g6;have am:=eD ((fi.grown g6).ext Y);have an:=eD (Z.fK (P:=prog) 297 _ underlying297 rfl (by kernel_rfl));clear n4 al Z g6 Y X;go_wp
 try simp only[Exit.inBlock,Exit.then]
 exact iA (oY rfl rfl an) rfl ⟨_,rfl,am⟩
section
variable {w:eI} {B p:Nat} {s:LS} {ex:List (eS×fS)}
theorem U2(a:OV):∀b (c:b<15),(OV.eL a)[3+b]? =some (a.im.eL[b]'c):=by have e:OV.eL a=[.int .i64 (a.id:Nat),.string (fI (jk a.fQ)),.int .i64 (oB a.fQ)]++(a.im.eL++[.int .i64 a.base,.int .i64 0,.bool a.lh,.bool a.keep,.slice a.nA a.eP.length a.nc,.slice none 0 0,.slice a.gA a.group.length a.gc,.int .i64 (a.gE:Nat),.slice a.bA 0 a.bc]):=rfl;intro b c;have d:a.im.eL.length=15:=rfl;rw[e,qq (by simp),qp (by simp only[iw,jH];omega)];simp only[iw,jH,Nat.add_sub_cancel_left];exact gg (by omega)
theorem PL(h:it w B p s ex){a:OV}(d:s.os=[a]){u:fE}{c:Nat}(v:Rd w u (ints [(a.id:Int)])):
 Calls prog 125 #[fw p,.slice u 1 c] w λe b=>∃g x,e=fH (fN g 1 x)/\b.ownsRow w 174 15 (fN g 1 x) 1 a.im.eL/\eF w b:=by
 have y:0<s.os.length:=by rw[d];simp
 have j:s.os[0]=a:=by simp[d]
 obtain⟨g,J,R,_,k⟩:=h.at y;rw[j] at k;have l:=eD (λb (m:eF w b)=>uO (h.ext m) (by rw[d];simp) y (λn z=>by omega) J);rw[j] at l;have A:=eD (λb (m:eF w b)=>jo (P:=prog) b g 3 174 a.im.eL _ (λn z=>m.cell (by have:=k (3+n) _ (U2 a n z);simpa using this)) underlying174 rfl (by kernel_rfl));obtain⟨S,T,rfl,d0⟩:=v 0 (by simp[ints]);have C:(ints [(a.id:Int)])[0]'(by simp[ints])=eE (a.id:Nat):=by simp[ints]
 rw[C,m5] at d0;have D:a.im.eL.length=15:=rfl;have K:=PK a.im;clear h k j d v C;generalize a.im.eL=o at*;go_in;go_wp
 refine wp_loop_rounds 2 ?_;rw[rounds_succ];go_wp
 refine(l w (eF.refl _)).mono ?_;rintro e r ⟨rfl,f⟩;have E:=eD f;have F:=eD (A r f);have L:=f.size;have M:r.ownsRow r 174 15 (eW) 0 []:=⟨rfl,.inl ⟨rfl,rfl⟩⟩;clear f l A d0;go_wp2_with (first|(refine eK rfl 174 (.tmp 19) rfl _ rfl (fV o.toArray) F ?_)|(refine jF rfl 301 174 (.tmp 20) rfl o 15 rfl underlying301 (by kernel_rfl) D (by decide) ?_)|(at_builtin;go_loud(refine LB rfl _ _ rfl M (fJ _) rfl o rfl D K (by omega) ?_)))
 intro U V t i _;obtain⟨W,N,rfl⟩:=eR t;have G:=(fi.grown (j1 i)).ext E (λX O=>by cases O);have H:=eD (fq t L);have Q:=eD G;clear t i G E F;go_wp
 rw[rounds_succ];go_wp
 go_ret;obtain⟨i,Y,I,_⟩:=jI H (by omega);simp only[ml] at I;obtain⟨rfl,_,rfl⟩:=I;exact⟨i,N,rfl,by simpa using H.out,Q.out⟩
theorem T1(h:it w B p s ex){d:OV}(G:s.os=[d])(S:0<=d.base/\d.base<=4294967296)(j:LW w d.im jp)(ar:∀H∈d.im.t.bs,Rd w H.A (ints H.is)){A:fE}{c:Nat}(hr:Rd w A (ints [(d.id:Int)])):
 Calls prog 69 #[fw p,eV (fI [102]),.slice A 1 c] w λe b=>e=fH (ij #[eE (d.id:Nat),eE d.base,fV (gR [102] 0 true 0 24).eL.toArray,eE 0])/\eF w b:=by
 have x:=j.mU;have au:jp.mU=[[0]]:=by kernel_rfl
 obtain⟨H,J,T⟩:∃H,d.im.t.bs=[H]/\H.is=[0]:=by
  rw[au] at x;cases S:d.im.t.bs with
  |nil=>rw[S] at x;cases x
  |cons aW be=>rw[S] at x;simp only[hU,zK,O0] at x;exact⟨aW,by rw[x.2],x.1⟩
 have av:d.im.t.In w:=by refine⟨j.bk.rd,λq hq=> ?_,by rw[J];simp,by rw[j.gv];exact j.wd.rd,λy k=>uM.enc.wf y (by rw[<-j.gv];exact k),by rw[j.gv];have:=uM.enc.wl;omega,by rw[j.shift];unfold sM;omega⟩;have K:=ar q hq;rw[J,fF] at hq;subst hq;exact⟨K,λbf z=>by rw[T,fF] at z;subst z;unfold sM;omega,by rw[T];simp⟩
 have hf:(wC d.im.t ⟨fI [102],⟨#[]⟩,false,0,false,0,false,0,0⟩ d.im.l).1=0:=by
  have aX:d.im.t.Mq (gZ (fI [102]))=false:=by unfold Tb.Mq;rw[j.gv,j.shift];kernel_rfl
  unfold wC;simp only[aX,J,ti,Nat.mod_one,List.getD_cons_zero,T,j.l];rfl
 have aY:d.im.l.length<=1000:=by rw[j.l];decide
 obtain⟨aZ,bg,rfl,d0⟩:=hr 0 (by simp[ints]);have ei:(ints [(d.id:Int)])[0]'(by simp[ints])=eE (d.id:Nat):=by simp[ints]
 rw[ei,m5] at d0;have z:0<s.os.length:=by rw[G];simp
 have af:s.os[0]=d:=by simp[G]
 obtain⟨g,o,bh,_,ag⟩:=h.at z;rw[af] at ag;have HG:=eD (λb (a:eF w b)=>uO (h.ext a) (by rw[G];simp) z (λu C=>by omega) o);have U:=eD (λb (a:eF w b)=>kv (h.ext a) (by rw[G];simp) s.os[0].id);rw[mv z rfl (λu C=>by omega)] at U;rw[af] at HG U;have D:=eD (λb (a:eF w b)=>PL (c:=c) (h.ext a) G (a.rd hr));have t:=eD (λb (a:eF w b) B g c E=>T0 (w:=b) (B:=B) (g:=g) (c:=c) (r:=⟨fI [102],⟨#[]⟩,false,0,false,0,false,0,0⟩) (m:=d.im) E (by refine⟨by decide,by decide, ?_, ?_, ?_, ?_⟩<;>(unfold sM;decide)) (av.ext a) (by rw[j.l];exact vV (a.rd j.sy.rd)) aY (by rw[J];simp) hf);have aw:=eD j.sy;have HC:=eD ag;have a0:=eD j.l;have ax:=eF.alloc w (eN rf 118);have ah:=eD ax;have ai:=eD (eQ.new w 118 rf);clear h j ar hr ag af G z av hf J T x au ei ax;obtain⟨bi,bj⟩:=S;go_in;go_wp
 obtain⟨w1,ay⟩:∃w1,w1=w.alloc (eN rf 118):=⟨_,rfl⟩;rw[<-ay] at ah ai ⊢;clear ay;refine(JW [102] w1 (by intro aZ f;rw[fF.1 f];decide) (by decide) (by decide)).mono ?_;rintro e w2 ⟨rfl,aj⟩;have az:=eD (ah.trans aj);have aA:=eD (aj.eH ai);have L:=eQ.new w2 118 rf;clear aj ah ai;go_wp2_with (refine eG rfl 118 (.tmp 10) (.tmp 21) rfl w2 rfl [eV (fI [102]),eV ⟨#[]⟩,fz false,eE 0,fz false,eE 0,fz false,eE 0,eE 0] rfl L (by simp[Value.oneCell']) (by kernel_rfl) (by rfl) ?_)
 intro w3 b3 g3;have ak:=(fi.grown g3).ext (eF.alloc _ _);have V:=eD (az.trans ak);have aB:=eD (ak.eH aA);have aC:=eD b3;have aD:=V.cell d0;clear L b3 g3 ak az aA d0;go_wp
 refine wp_loop_rounds 2 ?_;rw[rounds_succ];go_wp
 refine(U w3 V).mono ?_;rintro e F ⟨rfl,M⟩;have W:=eD (V.trans M);have aE:=eD (M.eH aB);have aF:=eD (M.eH aC);have aG:=M.cell aD;clear M V aB aC U aD;go_wp2;rw[rounds_succ];go_wp
 have aH:Hid (∀b,(∃l:EW F,b=l.w)->(loadVar 118 (eJ w2 0)).run prog b=.ok (fV #[eV (fI [102]),eV ⟨#[]⟩,fz false,eE 0,fz false,eE 0,fz false,eE 0,eE 0]) b):=eD (λb ⟨l,N⟩=>by subst N;exact(l.ext.eH aF).fK (P:=prog) 118 _ underlying118 rfl (by kernel_rfl))
 have D:=eD (λb (a:eF F b)=>D b (W.trans a));have t:=eD (λb (a:eF F b)=>t b (W.trans a));go_cut [14] (λa1 wx=>∃n,a1=fw n/\eQ wx n 297 #[eE 0,eE 0,fz true]/\eF F wx/\F.heap.size<=n)
 case first=>
  refine iW [0,1,2] [3,8] (.jG (.e [3] (.jG (.e [4] (.q [5,6,7] (.e [8] (.e [9] (.q [10] .done))))) (.e [8] (.e [4] (.q [5,6,7] (.e [9] (.q [10] .done))))))) (.e [8] (.e [3] (.e [4] (.q [5,6,7] (.e [9] (.q [10] .done))))))) ?_;refine fR rfl 118 (.tmp 10) rfl _ _ rfl aH (by simp[Act.put];rfl) ?_;repeat(go_big_quiet_step (fail))
  refine eO ?_;have X:=eD (eF.drew F);generalize World.drew F=v0 at*;simp only[iV.eL] at t;refine fX ?_ ?_
  ·skip
   refine eZ ?_;go_wp
   refine(D _ X).mono ?_;rintro e y1 ⟨Y,Z,rfl,E,a⟩;have O:=eD (X.trans a);have v:=eD E;clear a E D;go_wp2;refine⟨⟨⟨_,O⟩,rfl⟩, ?_⟩;refine fX ?_ ?_
   ·skip
    refine eT ?_;go_wp
    refine(t _ O _ Y Z v).mono ?_;rintro e y2 ⟨vn,rfl,a⟩;have aI:=eD (O.trans a);clear a v t;go_wp2;refine iH ?_;refine fj ?_;repeat(go_big_quiet_step (fail))
    refine eO ?_;refine eZ ?_;go_wp
    obtain⟨y3,k⟩:∃y,y=y2.alloc (eN #[eE 0,eE 0,fz false] 297):=⟨_,rfl⟩;rw[<-k];have a:=k▸eF.alloc _ _;have f:=k▸eQ.new _ _ _;have Q:=aI.size;have aJ:=eD (aI.trans a);clear k a;generalize y2.heap.size=n at*;have i:=eD f;clear f;refine⟨⟨⟨_,aJ⟩,rfl⟩, ?_⟩;refine eT ?_;go_wp2_with (refine eG rfl 297 (.tmp 14) (.tmp 45) rfl n rfl [eE 0,eE 0,fz true] rfl i (by simp[Value.oneCell']) (by kernel_rfl) (by rfl) ?_)
    intro y4 f o;have a2:=eD ((fi.grown o).ext aJ);have i:=eD f;clear f o;go_wp
    refine iH ?_;refine fj ?_;repeat(go_big_quiet_step (fail))
    refine eO ?_;refine fP ?_;go_wp
    go_meet;exact⟨n,rfl,i,a2,Q⟩
   ·skip
    refine eZ ?_;go_wp
    obtain⟨y5,k⟩:∃y,y=y1.alloc (eN #[eE 0,eE 0,fz false] 297):=⟨_,rfl⟩;rw[<-k];have a:=k▸eF.alloc _ _;have f:=k▸eQ.new _ _ _;have Q:=O.size;have v:=eD (a.own v);have al:=eD (O.trans a);clear k a;generalize y1.heap.size=n at*;have i:=eD f;clear f;refine⟨⟨⟨_,al⟩,rfl⟩, ?_⟩;refine eT ?_;go_wp
    refine(t _ al _ Y Z v).mono ?_;rintro e y6 ⟨vn,rfl,a⟩;have a3:=eD (al.trans a);have i:=eD (a.eH i);clear a v t;go_wp2;refine iH ?_;refine fj ?_;repeat(go_big_quiet_step (fail))
    refine eO ?_;refine eT ?_;go_wp2_with (refine eG rfl 297 (.tmp 14) (.tmp 45) rfl n rfl [eE 0,eE 0,fz true] rfl i (by simp[Value.oneCell']) (by kernel_rfl) (by rfl) ?_)
    intro y7 f o;have a4:=eD ((fi.grown o).ext a3);have i:=eD f;clear f o;go_wp
    refine iH ?_;refine fj ?_;repeat(go_big_quiet_step (fail))
    refine eO ?_;refine fP ?_;go_wp
    go_meet;exact⟨n,rfl,i,a4,Q⟩
  ·skip
   refine eZ ?_;go_wp
   obtain⟨y8,k⟩:∃y,y=v0.alloc (eN #[eE 0,eE 0,fz false] 297):=⟨_,rfl⟩;rw[<-k];have a:=k▸eF.alloc _ _;have f:=k▸eQ.new _ _ _;have Q:=X.size;have am:=eD (X.trans a);clear k a;generalize v0.heap.size=n at*;have i:=eD f;clear f;refine⟨⟨⟨_,am⟩,rfl⟩, ?_⟩;refine eZ ?_;go_wp
   refine(D _ am).mono ?_;rintro e y9 ⟨Y,Z,rfl,E,a⟩;have an:=eD (am.trans a);have v:=eD E;have i:=eD (a.eH i);clear a E D;go_wp2;refine⟨⟨⟨_,an⟩,rfl⟩, ?_⟩;refine eT ?_;go_wp
   refine(t _ an _ Y Z v).mono ?_;rintro e bk ⟨vn,rfl,a⟩;have a5:=eD (an.trans a);have i:=eD (a.eH i);clear a v t;go_wp2;refine iH ?_;refine fj ?_;repeat(go_big_quiet_step (fail))
   refine eO ?_;refine eT ?_;go_wp2_with (refine eG rfl 297 (.tmp 14) (.tmp 45) rfl n rfl [eE 0,eE 0,fz true] rfl i (by simp[Value.oneCell']) (by kernel_rfl) (by rfl) ?_)
   intro bl f o;have a6:=eD ((fi.grown o).ext a5);have i:=eD f;clear f o;go_wp
   refine iH ?_;refine fj ?_;repeat(go_big_quiet_step (fail))
   refine eO ?_;refine fP ?_;go_wp
   go_meet;exact⟨n,rfl,i,a6,Q⟩
 case rest=>
 obtain⟨n,rfl,f,a,bm⟩:=hcut;have aK:=W.trans a;have ao:=eD aK;have aL:=eD (a.eH aE);have aM:=eD f;have d0:=f.ce 0 (eE 0);have d2:=f.ce 2 (fz true);have a7:=a.cell aG;clear f a aK W aE aF D t aH aG;go_wp
 refine(HG wc ao).mono ?_;rintro e I ⟨rfl,ad⟩;have ae:=eD (ao.trans ad);have aN:=eD (ad.eH aL);have aO:=eD (ad.eH aM);clear d0 d2 a7 ad ao aL aM HG;go_wp2;obtain⟨sb,so,aP,a8⟩:=aw.rd 0 (by decide);have a9:∀u (C:u<9),w.cell? (eJ sb (so+u))=some ((gR [102] 0 true 0 24).eL[u]'C):=λu C=>by obtain⟨b',o',K,h2⟩:=aw.rd u C;rw[aP] at K;simp only[fd,ny,gP] at K;obtain⟨rfl,rfl⟩:=K;exact h2
 have e8:∀l:EW I,l.w.cell? (eJ g 8)=some (.slice (some (eJ sb so)) 1 d.im.sc):=λl=>l.cell (ae.cell (by have:=HC 8 (.slice d.im.SA d.im.l.length d.im.sc) rfl;rw[aP,a0,show jp.gy.length=1 from rfl] at this;simpa using this))
 have e1:=aO.ew 1 (eE 0) rfl;have R:Hid (∀b,(∃l:EW I,b=l.w)->(loadVar 118 (eJ sb so)).run prog b=.ok (fV (gR [102] 0 true 0 24).eL.toArray) b):=eD (λb ⟨l,N⟩=>by subst N;exact jo _ sb so 118 (gR [102] 0 true 0 24).eL _ (λu C=>l.cell (ae.cell (a9 u C))) underlying118 rfl (by kernel_rfl))
 refine iW [0,1,2,3,4,5,6,7,8] [9] (.e [9] (.e [10] .done)) ?_;iterate 8 (go_big_quiet_step (fail))
 refine fR rfl 118 (.tmp 65) rfl _ _ rfl R (by simp[Act.put];rfl) ?_;repeat(go_big_quiet_step (fail))
 refine eO ?_;clear e8 e1 R a8;have aQ:=eD (ae.trans (eF.drew I));have aR:=eD ((eF.drew I).eH aN);have aS:=eD (eF.drew I);generalize World.drew I=v6 at*;refine eZ ?_;go_wp
 have L:=eQ.new v6 118 rf;refine⟨⟨⟨_,aS.trans (eF.alloc _ _)⟩,rfl⟩, ?_⟩;refine eT ?_;go_wp2_with (refine eG rfl 118 (.tmp 17) (.tmp 66) rfl v6 rfl (gR [102] 0 true 0 24).eL rfl L (Jb _) (by kernel_rfl) (by rfl) ?_)
 intro w7 b7 g7;have ap:=(fi.grown g7).ext (eF.alloc _ _);have aq:=eD (aQ.trans ap);have a':=eD (ap.eH aR);have aT:=eD b7;clear L b7 g7 ap ae aN aO aQ aR aS;go_wp
 refine iH ?_;refine fP ?_;go_wp
 have e0:=oO (aq.cell (by have:=HC 0 (eE (d.id:Nat)) rfl;simpa using this));have bb:=oO (aq.cell (by have:=HC 18 (eE d.base) rfl;simpa using this));have e7:=aT.ew 7 (eE 0) rfl;have R:Hid (∀b,(∃l:EW w7,b=l.w)->(loadVar 118 (eJ v6 0)).run prog b=.ok (fV (gR [102] 0 true 0 24).eL.toArray) b):=eD (λb ⟨l,N⟩=>by subst N;exact(l.ext.eH aT).fK (P:=prog) 118 _ underlying118 rfl (by kernel_rfl))
 refine iW [0,1,2,3,4,5,6,7,8,9,10,11,12,13] [] (.e [14] (.q [15] .done)) ?_;iterate 11 (go_big_quiet_step (fail))
 refine fR rfl 118 (.tmp 17) rfl _ _ rfl R (by simp[Act.put];rfl) ?_;repeat(go_big_quiet_step (fail))
 refine eO ?_;clear e0 bb e7 R;have aU:=eD (aq.trans (eF.drew w7));have aV:=eD ((eF.drew w7).eH a');generalize World.drew w7=v8 at*;refine eT ?_;go_wp2_with (refine eG rfl 118 (.tmp 8) (.tmp 78) rfl w rfl (gR [102] 0 true 0 24).eL rfl aV (Jb _) (by kernel_rfl) (by rfl) ?_)
 intro w9 b9 g9;have bc:=eD ((fi.grown g9).ext aU);have bd:=eD (b9.fK (P:=prog) 118 _ underlying118 rfl (by kernel_rfl));clear b9 g9 aU aV;go_wp
 refine iH ?_;refine fj ?_;repeat(go_big_quiet_step (fail))
 refine eO ?_;refine fP ?_;go_wp
 try simp only[Exit.inBlock,Exit.then]
 exact iA (C1 rfl rfl bd) rfl ⟨rfl,bc⟩
end
end
