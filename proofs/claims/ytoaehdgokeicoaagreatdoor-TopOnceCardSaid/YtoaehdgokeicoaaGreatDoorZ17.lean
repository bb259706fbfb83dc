/- TopOnce: part 17 of the proof. -/
import Derived.Test.YtoaehdgokeicoaaGreatDoorZ16
set_option maxRecDepth 100000
set_option maxHeartbeats 30000000
set_option linter.all false
namespace Go.Proofs.YtoaehdgokeicoaaGreatDoor
open K9 Z9 Go.Proofs.Tryz
section
variable{w v u W V U:eI}{n k m i j p b c d g N B K G M:Nat}{x y z X Y Z:eS}{D E F:Int}{A C H I:fE}{l L J T:fY}{r s t R S:fe}{f:ik}{a:Act}{O P Q:List Oper}{kE:Oper}{kG:Array Oper}{kJ:kx}{kM:fS}
section
open Go.RowKit Go.Shelf
def zY(k:Nat):fS:=(List.range k).map λi=>((24*i:Nat):Int)
theorem KY(a:Nat):zY (a+1)=zY a++[((24*a:Nat):Int)]:=by simp[zY,un]
abbrev sJ(q:Nat)(A:fE)(k c:Nat)(s g p t d:Int):fY:=[fw q,.slice A k c,eW,eE s,eE g,eE p,eE 0,eE t,eE d,eE 0]
def G7:mB:=[247,3]
theorem vX{B:Nat}{e:ik}{size:Nat}{v:eS}(c:eQ w n f kJ)(d:w.ownsRow B e size v k l)(h:e≠f):some n≠v.ownBlock:=λg=>by obtain⟨j,m,o,i,a⟩:=tO d g.symm;have b:=c.symm.trans i;simp only[fd,yV] at b;rw[<-b.2.1] at a;exact h (fF.1 a).symm
abbrev Ud:kx:=#[.pointer none,eW,eW,eE 0,eE 0,eE 0,eE 0,eE 0,eE 0,eE 0]
def KZ(w0:eI)(g q k:Nat)(t:Int)(w:eI):Prop:=∃A c,eQ w g 247 (sJ q A k c 0 0 0 t 0).toArray/\eQ w w0 247 Ud/\w.ownsRow w0 3 1 (.slice A k c) k (ints (zY k))/\CH w0 G7 [] w0 w
theorem KZ.ext{w w':eI}{g q k:Nat}(h:KZ v g q k D w)(a:eF w w'):KZ v g q k D w':=by obtain⟨b,c,d,f,i,j⟩:=h;exact⟨b,c,a.eH d,a.eH f,a.own i,j.ext a⟩
theorem KZ.text{q:Nat}(h:KZ w (w.heap.size+1) q n D v)(a:Int):KZ w (w.heap.size+1) q n a (v.setCell (eJ (w.heap.size+1) 7) (eE a)):=by obtain⟨c,d,b,f,g,i⟩:=h;have j:CH w G7 [] v (v.setCell (eJ (w.heap.size+1) 7) (eE a)):=CH.set b (by omega) (by decide) 7 _;exact⟨c,d,b.set 7 _,f.ub (by simp) _,il g b (by decide) _,i.fk j⟩
theorem KZ.c7{w:eI}{g q k:Nat}{t:Int}(h:KZ v g q k t w):w.cell? (eJ g 7)=some (eE t)/\w.frozen? (eJ g 7)=false:=by obtain⟨b,c,a,_⟩:=h;exact⟨a.cell 7 rfl,a.frozen 7⟩
structure L4(w0 w:eI)(A:fE)(k c:Nat)(l:fY):Prop where
 b:eQ w (w0.heap.size+1) 247 l.toArray
 z:eQ w w0 247 Ud
 o:w.ownsRow w0 3 1 (.slice A k c) k (ints (zY k))
 c:CH w0 G7 [] w0 w
theorem L4.set{w:eI}{A:fE}{k c:Nat}{l:fY}(h:L4 v w A k c l)(i:Nat)(u:eS){l':fY}(e:l.set i u=l'):L4 v (w.setCell (eJ (v.heap.size+1) i) u) A k c l':=
 ⟨by rw[<-e];simpa using h.b.set i u,h.z.ub (by simp) _,il h.o h.b (by decide) _,h.c.fk (CH.set h.b (by omega) (by decide) i _)⟩
theorem L4.ext{w w':eI}{A:fE}{k c:Nat}{l:fY}(h:L4 v w A k c l)(a:eF w w'):L4 v w' A k c l:=⟨a.eH h.b,a.eH h.z,a.own h.o,h.c.ext a⟩
def CM(w:eI)(q n:Nat)(e:Ending)(w':eI):Prop:=∃A c,e=fH (fV (sJ q A n c ((24*n:Nat):Int) 64 64 ((24*n:Nat):Int) 64).toArray)/\w'.ownsRow w 3 1 (.slice A n c) n (ints (zY n))/\eF w w'
theorem Rr{B q:Nat}{b:lM}{own:Int}{aF:List iV}(h:vf w B q b A n own aF)(av:Rp b)(aw:oC w b):
 Calls prog 85 #[fw q] w (CM w q b.fs):=by
 have aX:=av.iO;have O:=h.eH;have Q:=eD O;have aG:=eD aw;have y:=O.ce 4 (.slice b.FA b.fs.length b.fc);have aY:=O.lt;clear h av aw O;go_in;go_wp
 have ax:Hid (KZ w (w.heap.size+1) q 0 0 ((w.alloc (eN Ud 247)).alloc (eN (sJ q none 0 0 0 0 0 0 0).toArray 247))):=eD (by have hx:=(eF.alloc w (eN Ud 247)).trans (eF.alloc _ (eN (sJ q none 0 0 0 0 0 0 0).toArray 247));have g:=eQ.new (w.alloc (eN Ud 247)) 247 (sJ q none 0 0 0 0 0 0 0).toArray;rw[fM] at g;exact⟨none,0,g,(eF.alloc _ _).eH (eQ.new _ _ _),ji _ _ _ _,CH.fg hx⟩)
 unfold Ud at ax;clear y;go_loopw [18] (λaj wr=>∃(c:Nat) (a:Int),c<=b.fs.length/\aj=eE c/\a=((24*c:Nat):Int)/\KZ w (w.heap.size+1) q c a wr) (λaj _=>b.fs.length- (intOf aj).toNat)
 case atStart=>exact⟨0,0,eX _,rfl,rfl,ax⟩
 case round=>
  obtain⟨c,a,I,rfl,z,C⟩:=hrel;have HT:=eD z;have aZ:0<=a/\a<=48:=by omega
  clear z;obtain⟨d,f,g,R,S,j⟩:=C;by_cases ay:c<b.fs.length
  ·have ak:=eD (aG.ch j (by decide) (by decide) (by decide) (by decide));obtain⟨aH,a0,hA,a1,h0,J,h2,h3,h4,h5,h6,h7,h8,h9⟩:=Ng uJ ak.Ej.rd ay rfl;rw[hA];have az:=eU ay;have aA:=eD (ak.AX _ az);have a2:(rN b.fs[c].n).length=3:=rfl;generalize rN b.fs[c].n=li at*;generalize b.fs[c].A=fA at*;generalize b.fs[c].c=fc at*;generalize fI b.fs[c].name=nm at*;generalize b.fs[c].sW=a3 at*;have d1:=g.ce 1 (.slice d c f);have d7:=g.ce 7 (eE a);have a4:=g.lt;have p:=eD S;have al:=eD g;have HZ:=eD R;have K:=eD j;have aI:=eD j.size;obtain⟨T,rfl⟩:∃T,T=wr:=⟨wr,rfl⟩;clear hA g R S j ak az;go_wp2_with (at_builtin;go_loud(refine jQ rfl _ _ rfl ((eF.alloc T _).own p) (eY aI (by rw[fM];omega)) rfl [eE a] (by rw[fM];rfl) rfl (by simp[Value.oneCell']) (by omega) ?_))
   intro v4 r o4 s _;obtain⟨U,y,rfl⟩:=eR o4;have bF:=eQ.grown ((eQ.new T 127 _).alloc _) s (λe=>by have:=(p.lt _ e.symm).2;omega);replace s:=hQ (hQ s);have D:=al.grown s (vX al p (by decide));have aB:=HZ.grown s (vX HZ p (by decide));have aC:=K.fk (CH.grown s p (by decide));have k1:=D.ce 1 (.slice d c f);have f1:=D.frozen 1;have V:CH w G7 [] r (r.setCell (eJ (w.heap.size+1) 1) (.slice U (c+1) y)):=CH.set D (by omega) (by decide) 1 _;have aJ:=eD ((aA.lS (fi.grown s) λaH g e=>(tO p e.symm).not (L':=[124]) (by decide) g).ch V);have aK:Hid (KZ w (w.heap.size+1) q (c+1) a (r.setCell (eJ (w.heap.size+1) 1) (.slice U (c+1) y))):=eD ⟨U,y,D.set 1 _,aB.ub (by simp) _,il (by rw[KY,<-HT];simpa[ints] using o4) D (by decide) _,aC.fk V⟩;have aL:=(V.eH bF).cell 9 rfl;clear bF aB aC V o4 p al HZ K aA h0 J h2 h3 h4 h5 h6 h7 h8 h9 d1 d7;go_wp
   clear aL k1 f1 D;generalize r.setCell (eJ (w.heap.size+1) 1) (.slice U (c+1) y)=L at*;go_loopw [32] (λam wr=>∃(k:Nat) (i:Int),k<=3/\am=eE k/\i=a+8*k/\KZ w (w.heap.size+1) q (c+1) i wr/\CH w G7 [] L wr) (λam _=>3- (intOf am).toNat)
   case atStart=>exact⟨0,a,eX _,rfl,by simp,aK,CH.refl _ _ _ _⟩
   case round=>
    obtain⟨k,i,W,rfl,z,C,j⟩:=hrel;by_cases a5:k<3
    ·obtain⟨b2,o2,aM,a6,h0,J,h2,h3,h4,h5,h6,h7,h8⟩:=Vs vI (aJ.ch j).rd (show k<li.length by omega) rfl;generalize li[k]'(by omega)=m at*;subst aM;have HI:=eD C;have K:=eD j;have aN:=eD z;have a7:0<=i/\i<=72:=by omega
     obtain⟨E,rfl⟩:∃E,E=wr:=⟨wr,rfl⟩;clear C j z;go_wp
     have an:=eF.alloc E (eN (lL m).toArray 124);have t:=eD (HI.ext an);have ao:=eD (K.ext an);have ap:=eD (eQ.new E 124 (lL m).toArray);unfold lL at t ao ap;clear an HI K h0 J h2 h3 h4 h5 h6 h7 h8;generalize E.alloc (eN #[eE 0,eE m.op,eE m.a,eE 0,eE 0,eE m.n,eE 0,eV ⟨#[]⟩,eV ⟨#[]⟩] 124)=F at*;generalize E.heap.size=gl at*;have u:∀l:EW F,l.w.cell? (eJ (w.heap.size+1) 7)=some (eE i):=λl=>l.cell t.c7.1;have X:Hid (∀Y,(∃l:EW F,Y=l.w)->(loadVar 124 (eJ gl 0)).run prog Y=.ok (fV (lL m).toArray) Y):=eD (λY ⟨l,e⟩=>by subst e;exact(l.ext.eH ap).load 124 0 (lL m) rfl _ underlying124 rfl (by kernel_rfl))
     refine xO [0,1,2] [3,4,5,6,7] 2 ?_;iterate 2 (go_big_quiet_step (fail))
     refine fR rfl 124 (.tmp 7) rfl _ _ rfl X (by simp[Act.put];rfl) ?_;refine eO ?_;clear u X;refine gH ?_;go_wp
     refine(Nq m _).mono ?_;rintro e v ⟨rfl,G⟩;replace G:=(eF.drew F).trans G;have d7:=(t.ext G).c7.1;have f7:=(t.ext G).c7.2;have H:=eD G;clear G;go_wp2;refine⟨⟨⟨v,H⟩,rfl⟩, ?_⟩;refine gH ?_;go_wp
     refine⟨⟨⟨v,H⟩,rfl⟩, ?_⟩;refine jm ?_;go_wp
     have aO:Hid (KZ w (w.heap.size+1) q (c+1) (i+8) (v.setCell (eJ (w.heap.size+1) 7) (eE (i+8)))):=eD ((t.ext H).text _);have aP:Hid (CH w G7 [] L (v.setCell (eJ (w.heap.size+1) 7) (eE (i+8)))):=eD (by obtain⟨d,f,J,_⟩:=t.ext H;exact(ao.ext H).fk (CH.set J (by omega) (by decide) 7 _))
     clear t ao H ap d7 f7;go_roundw
     case rel=>exact⟨k+1,i+8,by omega,by go_num,by have:=aN.out;omega,aO.out,aP.out⟩
     case measure=>simp[intOf];omega
    ·obtain rfl:k=3:=by omega
     have aQ:=eD C;have aR:Hid (i=((24*(c+1):Nat):Int)):=eD (by have:=HT.out;omega);clear C j z;go_wp
     go_roundw
     case rel=>exact⟨c+1,i,by omega,by go_num,aR,aQ⟩
     case measure=>simp[intOf];omega
  ·obtain rfl:c=b.fs.length:=by omega
   have HE:=eD (show L4 w wr d b.fs.length f (sJ q d b.fs.length f 0 0 0 a 0) from⟨g,R,S,j⟩);have d7:=g.ce 7 (eE a);have d3:=g.ce 3 (eE 0);have f3:=g.frozen 3;clear g R S j;go_wp
   have Z:Hid (L4 w (wr.setCell (eJ (w.heap.size+1) 3) (eE a)) d b.fs.length f (sJ q d b.fs.length f a 0 0 a 0)):=eD (HE.set 3 _ rfl);clear d7 d3 f3 HE;generalize wr.setCell (eJ (w.heap.size+1) 3) (eE a)=w1 at*;have aS:=eD (Z.c.eH Q);have u:=Z.b.ew 7 (eE a) rfl;have M:=aS.ew 12 (eW) rfl;refine mY [0,1,2,3,4,5,6,7,8,9] [10] ?_;repeat(go_big_quiet_step (fail))
   refine eO ?_;have ad:=eD (Z.ext (eF.drew w1));have d7:=ad.b.ce 7 (eE a);have f7:=ad.b.frozen 7;clear u M Z;generalize World.drew w1=w2 at*;go_wp
   have W:0<=max 1 a/\max 1 a<=1048576:=by omega
   have hu:jn (max 1 a)=64:=by unfold jn;omega
   refine(QY (max 1 a) _ W.1 W.2).mono ?_;rw[hu];rintro e w3 ⟨rfl,rfl⟩;have ae:Hid (L4 w (w2.setCell (eJ (w.heap.size+1) 7) (eE a)) d b.fs.length f (sJ q d b.fs.length f a 0 0 a 0)):=eD (ad.set 7 _ rfl);clear d7 f7 ad W hu;generalize w2.setCell (eJ (w.heap.size+1) 7) (eE a)=w3 at*;have d4:=ae.b.ce 4 (eE 0);have f4:=ae.b.frozen 4;go_wp2;have af:Hid (L4 w (w3.setCell (eJ (w.heap.size+1) 4) (eE 64)) d b.fs.length f (sJ q d b.fs.length f a 64 0 a 0)):=eD (ae.set 4 _ rfl);clear d4 f4 ae;generalize w3.setCell (eJ (w.heap.size+1) 4) (eE 64)=r at*;have u:=af.b.ew 4 (eE 64) rfl;have M:=(af.c.eH Q).ew 11 (eW) rfl;refine mY [0,1,2,3,4,5,6,7,8,9] [10] ?_;repeat(go_big_quiet_step (fail))
   refine eO ?_;have ag:=eD (af.ext (eF.drew r));have d7:=ag.b.ce 5 (eE 0);have f7:=ag.b.frozen 5;clear u M af;generalize World.drew r=L at*;go_wp
   have ah:Hid (L4 w (L.setCell (eJ (w.heap.size+1) 5) (eE 64)) d b.fs.length f (sJ q d b.fs.length f a 64 64 a 0)):=eD (ag.set 5 _ rfl);clear d7 f7 ag;generalize L.setCell (eJ (w.heap.size+1) 5) (eE 64)=F at*;have u:=ah.b.ew 5 (eE 64) rfl;have M:=(ah.c.eH Q).ew 12 (eW) rfl;refine mY [0,1,2,3,4,5,6,7,8,9] [10] ?_;repeat(go_big_quiet_step (fail))
   refine eO ?_;have ai:=eD (ah.ext (eF.drew F));have d7:=ai.b.ce 8 (eE 0);have f7:=ai.b.frozen 8;clear u M ah;generalize World.drew F=v at*;have aq:L4 w (v.setCell (eJ (w.heap.size+1) 8) (eE 64)) d b.fs.length f (sJ q d b.fs.length f a 64 64 a 64):=ai.set 8 _ rfl;have d5:=(aq.c.eH Q).ce 5 (eW);have x:=eD aq;clear aq;go_wp
   clear d7 f7 ai d5;generalize v.setCell (eJ (w.heap.size+1) 8) (eE 64)=w8 at*;refine wp_loop_rounds 1 ?_;rw[rounds_succ];obtain⟨o,N⟩:∃o:fY,o=sJ q d b.fs.length f a 64 64 a 64:=⟨_,rfl⟩;have HL:=eD N;have X:Hid ((loadVar 247 (eJ (w.heap.size+1) 0)).run prog w8=.ok (fV o.toArray) w8):=eD (by rw[N];exact x.b.fK 247 _ underlying247 rfl (by kernel_rfl));have aT:Hid (∀l∈o,l.oneCell'=true):=eD (by rw[N];simp[Value.oneCell']);have ar:Hid (o.length=10):=eD (by rw[N];rfl);clear N;go_wp2_with (first|(refine eK rfl 247 (.tmp 3) rfl _ rfl (fV o.toArray) X ?_)|(refine eG rfl 247 (.tmp 2) (.tmp 128) rfl w rfl o rfl x.z aT (by rw[ar];kernel_rfl) (by rw[ar];rfl) ?_))
   intro w9 aD au;have aE:=aD.fK (P:=prog) 247 _ underlying247 rfl (by rw[ar];kernel_rfl);have aU:Hid (CM w q b.fs.length (fH (fV o.toArray)) w9):=eD (by
    rw[HL,HT];have aV:CH w G7 [] w8 w9:=fi.mono (fi.grown au) λc I=>by simp only[fd] at I;subst I;exact⟨fJ _,.inl ⟨_,_,_,x.z,by decide⟩⟩
    exact⟨d,f,rfl,(fi.grown au).own x.o (λc I e=>vX x.z x.o (by decide) ((show some c=some w from e).symm.trans I.symm)),(x.c.fk aV).lP (eF.refl _) (fJ _)⟩)
   have aW:=eD aE;clear aD aE au;go_wp
   exact iA (iN rfl rfl aW) rfl aU
theorem zh:(prog.info? 121).map (λa=>(a.zero,a.size,a.bytes))=some (some (.agg #[.int .i64 0,.int .i64 0,.int .i64 0,.int .i64 0,.int .i64 0]),5,40):=by kernel_rfl
theorem K0{rest:List Oper}{o:Exit->Act->eI->Prop}(r:kE.guard=none)(i j:Operand)(s:kE.op=.call {callee:=.builtin .append,args:=#[i,j],argTypes:=#[252,252]}){b:eS}{f:Nat}{k:fY}(h:w.ownsRow n 121 5 b f k)(t:n<=w.heap.size)(u:a.eval i=b)(l:fE)(p:Nat)(c:fY)(d:Nat)(v:a.eval j=.slice l d p)(x:c.length=d*5)(y:Rd w l c)(z:∀A∈c,A.oneCell'=true)(H:f+d<=1000000)(B:∀g m,m.ownsRow n 121 5 g (f+d) (k++c)->w.grownBy m b.ownBlock->(g.ownBlock=b.ownBlock\/g.ownBlock=some w.heap.size)->wpList prog kG o rest (a.put kE.dst g) m):wpList prog kG o (kE::rest) a w:=by obtain⟨C,D,E,F,G⟩:=info_parts zh;exact fB r i j 252 s n 121 C _ 5 40 underlying252 D E F G rfl (by omega) b f k u h l p c d v x y z (by unfold maxLen;omega) (by omega) t B
theorem Ow(a:Ins):a.eL.length=5:=rfl
def Rs(w:eI)(i:Ins)(e:Ending)(w':eI):Prop:=∃b,e=fH (fN b 1 1)/\eQ w' b 121 i.eL.toArray/\eF w w'
theorem K1(c:fY)(a:Ins)(at_:Int)(b:eI):Calls prog 154 #[fV c.toArray,fV (lL a).toArray,eE at_] b (Rs b a):=by
 unfold lL;go_in;go_wp
 go_ret;have d:=eQ.new ((b.alloc (eN c.toArray 247)).alloc (eN (lL a).toArray 124)) 121 a.eL.toArray;simp only[fM] at d;exact⟨_,rfl,d,((eF.alloc _ _).trans (eF.alloc _ _)).trans (eF.alloc _ _)⟩
theorem Rt(h:eQ w n f l.toArray):Rd w (some (eJ n 0)) l:=λa b=>⟨n,0,rfl,by rw[lH];exact h.cell a (by simp[b])⟩
def Sx(w0 w1:eI)(n:Nat)(l:List Ins)(v:eS)(w:eI):Prop:=∃A c,v=.slice A n c/\l.length=n/\w.ownsRow w0 121 5 (.slice A n c) n (fO Ins.eL l)/\CH w0 [121] [] w1 w
theorem Sx.ext{w1 w w':eI}{n:Nat}{l:List Ins}{v:eS}(h:Sx u w1 n l v w)(a:eF w w'):Sx u w1 n l v w':=by obtain⟨b,c,d,f,g,i⟩:=h;exact⟨b,c,d,f,a.own g,i.ext a⟩
def py(fs:List xa):List Ins:=fs.flatMap λf=>rN f.n
theorem vY:∀a:List xa,(py a).length=3*a.length
 |[]=>rfl
 |b::a=>by have:=vY a;simp only[py,oz,fT,iw] at this ⊢;rw[this];simp[rN];omega
theorem vZ{B q:Nat}{a:lM}{own:Int}{ay:List iV}(h:vf w B q a C n own ay)(aL:1<=a.fs.length/\a.fs.length<=2)(Y:oC w a)(A:fE)(Z c:Nat)(ad ae af ag ah:Int):
 Calls prog 90 #[fV (sJ q A Z c ad ae af ag ah).toArray] w (ir w 121 5 (3*a.fs.length) (fO Ins.eL (py a.fs))):=by
 obtain⟨f,s⟩:∃f:fY,f=sJ q A Z c ad ae af ag ah:=⟨_,rfl⟩;have ai:f.toArray[0]? =some (.pointer (some ⟨q,0,none⟩)):=by rw[s];rfl
 have az:Hid (f.length=10):=eD (by rw[s];rfl);rw[<-s];have HP:=eD h.eH;have aA:=eD Y;have z:=eF.alloc w (eN f.toArray 247);have D:=eD (eQ.new w 247 f.toArray);have c0:=D.cell 0 ai;have c4:=(z.eH h.eH).ce 4 (.slice a.FA a.fs.length a.fc);have t:=eD z;clear h Y z s;go_in;go_wp
 clear c0 c4;generalize w.heap.size=gb at*;have aB:Hid (Sx w (w.alloc (eN f.toArray 247)) 0 [] (eW) (w.alloc (eN f.toArray 247))):=eD ⟨none,0,rfl,rfl,ji _ _ _ _,CH.refl _ _ _ _⟩;generalize w.alloc (eN f.toArray 247)=r at*;go_loopw [17,3] (λE F wr=>∃b:Nat,b<=a.fs.length/\E=eE b/\Sx w r (3*b) (py (a.fs.take b)) F wr) (λE _ _=>a.fs.length- (intOf E).toNat)
 case atStart=>exact⟨0,eX _,rfl,aB⟩
 case round=>
  obtain⟨b,hk,rfl,p⟩:=hrel;have i:CH w.heap.size [121] [] r wr:=by obtain⟨_,_,_,_,_,h⟩:=p;exact h
  obtain⟨q0,aC,aD,G⟩:∃l:kx,l[4]? =some (.slice a.FA a.fs.length a.fc)/\l[12]? =some (.slice none 0 0)/\eQ wr q 245 l:=⟨_,rfl,rfl,i.eH (t.eH HP)⟩;by_cases H:b<a.fs.length
  ·have I:=eD ((aA.ext t).ch i (by decide) (by decide) (by decide) (by decide));obtain⟨aM,aN,hA,hb,J,K,L,M,N,O,P,Q,R,h9⟩:=Ng uJ I.Ej.rd H rfl;rw[hA];have aj:=eU H;have ak:=eD (I.AX _ aj);have aO:(rN a.fs[b].n).length=3:=rfl;have aE:Hid (py (a.fs.take (b+1))=py (a.fs.take b)++rN a.fs[b].n):=eD (by unfold py;rw[iz H,zX,oz,Cy,ox]);have HI:=eD p;generalize rN a.fs[b].n=j at*;generalize a.fs[b].A=fA at*;generalize a.fs[b].c=fc at*;generalize fI a.fs[b].name=nm at*;generalize a.fs[b].sW=al at*;obtain⟨u,rfl⟩:∃u,u=wr:=⟨wr,rfl⟩;clear hA aj p I G aC;go_wp
   have S:=eF.alloc u (eN #[eV nm,eV ⟨#[]⟩,fz false,eE 1,fz false,eE al,fz false,eE 0,eE 0,.slice fA 3 fc] 127);have aF:=eD (HI.ext S);have aG:=eD (ak.ext S);generalize u.alloc (eN #[eV nm,eV ⟨#[]⟩,fz false,eE 1,fz false,eE al,fz false,eE 0,eE 0,.slice fA 3 fc] 127)=w5 at*;clear J K L M N O P Q R h9 S HI ak i;go_loopw [24,3] (λT F wr=>∃d:Nat,d<=3/\T=eE d/\Sx w r (3*b+d) (py (a.fs.take b)++j.take d) F wr/\CH w [121] [] w5 wr) (λT _ _=>3- (intOf T).toNat)
   case atStart=>exact⟨0,eX _,rfl,by simpa using aF.out,CH.refl _ _ _ _⟩
   case round=>
    obtain⟨d,hm,rfl,p,i⟩:=hrel;obtain⟨v,x,rfl,m,k,g⟩:=p;by_cases aP:d<3
    ·obtain⟨b2,o2,aH,aQ,J,K,L,M,N,O,P,Q,R⟩:=Vs vI (aG.ch i).rd (show d<j.length by omega) rfl;have am:Hid (j.take (d+1)=j.take d++[j[d]'(by omega)]):=eD (iz (by omega));generalize j[d]'(by omega)=an at*;subst aH;have HO:=eD k;have HC:=eD i;have ao:=eD g;have aI:=eD m;have ap:=eD (eY t.size g.size);have aq:Hid (∀l:kx,(loadVar 247 (eJ gb 0)).run prog (wr.alloc (eN l 124))=.ok (fV f.toArray) (wr.alloc (eN l 124))):=eD (λl=>((g.eH D).alloc _).fK 247 _ underlying247 rfl (by rw[az];kernel_rfl));have U:=eD (K1 f an);unfold lL at U;clear k i g m;go_wp2_with (refine eK rfl 247 (.tmp 1) rfl _ rfl (fV f.toArray) (aq _) ?_)
     refine(U _ _).mono ?_;rintro e w6 ⟨b6,rfl,ar,o⟩;replace o:=(eF.alloc wr _).trans o;have y:=eD (o.own HO);have au:=eD (HC.ext o);have av:=eD (ao.ext o);have aw:=eD (eY ap o.size);have ax:=eD (Rt ar);clear ar o HO HC ao ap aq U J K L M N O P Q R;go_wp2_with (at_builtin;go_loud(refine K0 rfl _ _ rfl y aw rfl (some (eJ b6 0)) 1 an.eL 1 rfl rfl ax (by simp[Ins.eL,Value.oneCell']) (by omega) ?_))
     intro v7 w7 V W _;obtain⟨A7,c7,rfl⟩:=eR V;have X:Hid (Sx w r (3*b+(d+1)) (py (a.fs.take b)++j.take (d+1)) (.slice A7 (3*b+(d+1)) c7) w7):=eD ⟨A7,c7,rfl,by rw[am,<-iK,fT,aI];rfl,by rw[am,<-iK,hZ,lq,Aw,ox];exact V,av.fk (CH.grown W y (by decide))⟩;have aJ:=eD (au.fk (CH.grown W y (by decide)));clear V W y au av aw ax;go_wp
     go_roundw
     case rel=>exact⟨d+1,by omega,by go_num,X,aJ⟩
     case measure=>simp[intOf];omega
    ·obtain rfl:d=3:=by omega
     have X:Hid (Sx w r (3*(b+1)) (py (a.fs.take (b+1))) (.slice v (3*b+3) x) wr):=eD (by have e3:j.take 3=j:=mZ (by omega);rw[e3,<-aE] at m k;exact⟨v,x,rfl,m,k,g⟩)
     clear k i g m;go_wp
     go_roundw
     case rel=>exact⟨b+1,by omega,by go_num,X⟩
     case measure=>simp[intOf];omega
  ·obtain rfl:b=a.fs.length:=by omega
   obtain⟨v,x,rfl,m,k,g⟩:=p;rw[iT] at k;have c0:=(g.eH D).cell 0 ai;have aR:=G.cell 12 aD;have aK:Hid (ir w 121 5 (3*a.fs.length) (fO Ins.eL (py a.fs)) (fH (.slice v (3*a.fs.length) x)) wr):=eD ⟨_,rfl,k,g.lP t (fJ _)⟩;clear k g m G i;go_wp
   refine wp_loop_rounds 1 ?_;rw[rounds_succ];go_wp
   go_ret;exact aK
theorem zZ:(prog.info? 5).map (λa=>(a.zero,a.size,a.bytes))=some (some (.int .u8 0),1,1):=by kernel_rfl
theorem Ox{rest:List Oper}{o:Exit->Act->eI->Prop}(r:kE.guard=none)(i j:Operand)(s:kE.op=.call {callee:=.builtin .append,args:=#[i,j],argTypes:=#[61,61]}){b:eS}{f:Nat}{k:fY}(h:w.ownsRow n 5 1 b f k)(t:n<=w.heap.size)(u:a.eval i=b)(l:fE)(p:Nat)(c:fY)(d:Nat)(v:a.eval j=.slice l d p)(x:c.length=d*1)(y:Rd w l c)(z:∀A∈c,A.oneCell'=true)(H:f+d<=1000000)(B:∀g m,m.ownsRow n 5 1 g (f+d) (k++c)->w.grownBy m b.ownBlock->(g.ownBlock=b.ownBlock\/g.ownBlock=some w.heap.size)->wpList prog kG o rest (a.put kE.dst g) m):wpList prog kG o (kE::rest) a w:=by obtain⟨C,D,E,F,G⟩:=info_parts zZ;exact fB r i j 61 s n 5 C _ 1 1 underlying61 D E F G rfl (by omega) b f k u h l p c d v x y z (by unfold maxLen;omega) (by omega) t B
theorem zi(a:Int)(h: -100<=a/\a<=100):jl (Ins.B ⟨1,1,a⟩)=[.int .u8 1,.int .u8 1,.int .u8 0,.int .u8 0,.int .u8 (a%256),.int .u8 (a%4294967296/256%256),.int .u8 (a%4294967296/65536%256),.int .u8 (a%4294967296/16777216)]:=by
 by_cases c:0<=a
 ·have b:(UInt8.ofNat a.toNat).toNat=a.toNat:=by simp;omega
  simp only[Ins.B,Sg,c,nV,jl,hU,jt,nO,j6,b,zK,gP,Value.int.injEq,ky];refine⟨rfl,rfl,rfl,rfl,by omega, ?_, ?_, ?_⟩<;>(show(0:Int)=_;omega)
 ·have b:(UInt8.ofNat (256+a).toNat).toNat=(256+a).toNat:=by simp;omega
  simp only[Ins.B,Sg,c,ua,jl,hU,jt,nO,j6,b,zK,gP,Value.int.injEq,ky];refine⟨rfl,rfl,rfl,rfl,by omega, ?_, ?_, ?_⟩<;>(show(255:Int)=_;omega)
def Sy(w:eI)(l:List Ins)(e:Ending)(w':eI):Prop:=∃A c,e=fH (ij #[.slice A (8*l.length) c,eE 0])/\w'.ownsRow w 5 1 (.slice A (8*l.length) c) (8*l.length) (jl (j8 l))/\eF w w'
theorem Oy(b:List Ins)(hl:b.length<=6)(G:∀i∈b,i.Ok)(A:fE)(c:Nat)(H:Rd w A (fO Ins.eL b)):
 Calls prog 89 #[.slice A b c] w (Sy w b):=by
 have M:=eD H;have N:=eD G;clear H G;go_in;go_wp
 go_loopw [11,4] (λi O wr=>∃a l m,a<=b.length/\i=eE (a:Nat)/\O=.slice l (8*a) m/\wr.ownsRow w 5 1 (.slice l (8*a) m) (8*a) (jl (j8 (b.take a)))/\CH w [5] [] w wr) (λi _ _=>b.length- (intOf i).toNat)
 case atStart=>exact⟨0,none,0,eX _,rfl,rfl,ji _ _ _ _,CH.refl _ _ _ _⟩
 case round=>
  obtain⟨a,l,m,hk,rfl,rfl,j,k⟩:=hrel;by_cases x:a<b.length
  ·obtain⟨P,Q,rfl,hb,d⟩:=uK Ow ((k.lP (eF.refl _) (fJ _)).rd M) x (by decide);have y:=N _ (eU x);have R:Hid (j8 (b.take (a+1))=j8 (b.take a)++b[a].B):=eD (by unfold j8;rw[iz x,zX,oz,Cy,ox]);generalize b[a]=f at*;have S:wr.cell? (eJ P (Q+a*5))=some (eE f.op):=d 0 _ rfl;have T:=d 1 (eE f.a) rfl;have U:=d 2 (eE 0) rfl;have V:=d 3 (eE 0) rfl;have W:=d 4 (eE f.n) rfl;have I:=eD j;have z:=eD k;have X:=eD y;have B:=eD (Em f y);unfold Ins.eL at B;clear j k y d;go_wp
   refine(B _).mono ?_;rintro e n ⟨rfl,C⟩;have g:=C.eH (eQ.new wr 121 f.eL.toArray);have o:=g.ce 0 (eE f.op);have p:=g.ce 1 (eE f.a);have Y:=g.ce 2 (eE 0);have Z:=g.ce 3 (eE 0);have r:=g.ce 4 (eE f.n);have s:=(eF.alloc wr (eN f.eL.toArray 121)).trans C;have D:=eD (s.own I);have J:=eD (z.ext s);have K:=eD (eY z.size s.size);clear s C g I z B S T U V W;obtain⟨t,d,ad⟩:∃t:fY,jl f.B=t/\∀ae∈t,ae.oneCell'=true:=⟨_,rfl,pj _⟩;have aj:t.length=8:=by rw[<-d,ju,lV]
   cases X.out
   case' M8 af hm=>rw[zi af hm] at d;simp only at o p r
   case' out=>simp only at o p r
   case' ret=>simp only at o p r
   all_goals
    subst d;go_wp2_with (at_builtin;go_loud(refine Ox rfl _ _ rfl ((eF.alloc n _).own D) (eY K (eF.alloc n _).size) rfl (some (eJ n 0)) 8 _ 8 rfl rfl (ip n _ _) ad (by omega) ?_))
    intro v3 L u v _;obtain⟨E,F,rfl⟩:=eR u;replace v:=hQ v;have ag:Hid (L.ownsRow w 5 1 (.slice E (8*(a+1)) F) (8*(a+1)) (jl (j8 (b.take (a+1))))):=eD (by rw[R,jl,iC];first|exact u|(show L.ownsRow w 5 1 (.slice E (8*a+8) F) (8*a+8) (jl (j8 (b.take a))++jl _);rw[zi _ (by assumption)];exact u))
    have ah:=eD (J.fk (CH.grown v D (by decide)));clear u v D J K o p Y Z r;go_wp
    go_roundw
    case rel=>exact⟨a+1,E,F,by omega,by go_num,rfl,ag,ah⟩
    case measure=>simp[intOf];omega
  ·obtain rfl:a=b.length:=by omega
   rw[iT] at j;have ai:Hid (Sy w b (fH (ij #[.slice l (8*b.length) m,eE 0])) wr):=eD ⟨_,_,rfl,j,k.lP (eF.refl _) (fJ _)⟩;clear j k;go_wp
   go_ret2
   exact ai
def lO(fs:List xa):Nat->List iV
 |0=>jZ fs
 |k+1=>(lO fs k).set k (match fs[k]? with|some f=>gR f.name f.sW true ((24*k:Nat):Int) 24|none=>gR [] 0 true 0 0)
theorem oM(a:List xa):∀k,(lO a k).length=a.length
 |0=>by simp[lO,jZ]
 |k+1=>by simp[lO,oM a k]
theorem Bx(c:List xa):∀(b a:Nat),b<=a->(lO c b)[a]? =(jZ c)[a]?
 |0,a,_=>rfl
 |b+1,a,h=>by rw[lO,ur (by omega),Bx c b a (by omega)]
theorem uX{a:List xa}{k:Nat}(h:k<a.length):(lO a k)[k]'(by rw[oM];exact h)=gR a[k].name a[k].sW true 0 0:=by have b:=Bx a k k (fJ _);rw[gg (by rw[oM];exact h),gg (by simpa[jZ] using h)] at b;simpa[jZ] using b
theorem K2{a:List xa}(h:1<=a.length/\a.length<=2):lO a a.length=(List.range a).map λb=>match a[b]? with|some c=>gR c.name c.sW true (24*b) 24|none=>gR [] 0 true 0 0:=by
 match a,h with
 |[d],_=>simp[lO,jZ]
 |[d,f],_=>simp[lO,jZ,un]
theorem vf.Oz{q:Nat}{d:lM}{own:Int}{a:List iV}(h:vf w n q d (some (eJ m 0)) i own a){k:Nat}(f:k<a.length){y:iV}(e:y={a[k] with val:=y.val,size:=y.size}):
 vf ((w.setCell (eJ m (k*9+7)) (eE y.val)).setCell (eJ m (k*9+8)) (eE y.size)) n q d (some (eJ m 0)) i own (a.set k y)/\CH n uR [] w ((w.setCell (eJ m (k*9+7)) (eE y.val)).setCell (eJ m (k*9+8)) (eE y.size)):=by have b:=(h.row.stored (k*9+7) (eE y.val)).1;rw[m' rY a k 7 f (by omega) {a[k] with val:=y.val} _ rfl] at b;have c:=(b.stored (k*9+8) (eE y.size)).1;rw[m' rY _ k 8 (by simpa using f) (by omega) y (eE y.size) (by rw[e];simp[iV.eL])] at c;rw[IX] at c;have j:CH n uR [] w (w.setCell (eJ m (k*9+7)) (eE y.val)):=CH.pD h.row (by decide) _ _;have l:CH n uR [] (w.setCell (eJ m (k*9+7)) (eE y.val)) ((w.setCell (eJ m (k*9+7)) (eE y.val)).setCell (eJ m (k*9+8)) (eE y.size)):=CH.pD b (by decide) _ _;have g:q≠m:=λe=>vX h.eH h.row (by decide) (by rw[e];rfl);refine⟨⟨?_,h.low,by rw[nZ];exact c⟩,j.fk l⟩;rw[nZ];exact(h.eH.ub (p:=(eJ m (k*9+7))) g _).ub (p:=(eJ m (k*9+8))) g _
theorem wg(h:w.ownsRow n 3 1 (fN m i j) i (ints (zY i))){k:Nat}(a:k<i):w.cell? (eJ m k)=some (eE ((24*k:Nat):Int)):=by rw[h.cellAt k (by omega)];simp[ints,zY,a]
theorem E1{B q:Nat}{a:lM}{own:Int}(h:vf w B q a C n own (jZ a.fs))(ai:1<=a.fs.length/\a.fs.length<=2){B1:Nat}{A:fE}{c:Nat}(l:w.ownsRow B1 3 1 (.slice A a.fs c) a.fs (ints (zY a.fs))):
 Calls prog 88 #[fV (sJ q A a.fs c ((24*a.fs.length:Nat):Int) 64 64 ((24*a.fs.length:Nat):Int) 64).toArray] w λe E=>e=fH (ij #[])/\vf E B q a C n own (lO a.fs a.fs)/\CH B uR [] w E:=by
 obtain⟨d,z⟩:∃d,d=a.fs.length:=⟨_,rfl⟩;have Q:(jZ a.fs).length=d:=by rw[z];simp[jZ]
 obtain⟨b,av,p,aw,ax,_⟩:=jI h.row (by rw[Q];omega);injection p with K L M
 subst K;clear L M;rw[<-z] at l;obtain⟨r,ay,p,_,az,_⟩:=jI l (by omega);injection p with K L M
 subst K;clear L M;have R:=eD l;have S:=eD h;have s:=eD z;have aA:=h.eH.lt;rw[<-z] at ai ⊢;clear h l z Q;generalize T:((24*d:Nat):Int)=g at*;have aB:0<=g/\g<=48:=by omega
 have U:=eD T;clear T;go_in;go_wp
 have F:=eF.alloc w (eN (sJ q (some (eJ r 0)) d c g 64 64 g 64).toArray 247);have aj:=eD (F.own R);have H1:=eD (S.ext F);have ak:=eD (eQ.new w 247 (sJ q (some (eJ r 0)) d c g 64 64 g 64).toArray);have al:=eD F;clear F S R;have am:Hid (w.heap.size≠b/\w.heap.size≠r):=eD (by omega);generalize w.alloc (eN (sJ q (some (eJ r 0)) d c g 64 64 g 64).toArray 247)=V at*;generalize w.heap.size=G at*;go_loopw [11] (λi wr=>∃k:Nat,k<=d/\i=eE k/\vf wr B q a (some (eJ b 0)) n own (lO a.fs k)/\CH B uR [] V wr) (λi _=>d- (intOf i).toNat)
 case atStart=>exact⟨0,eX _,rfl,H1,CH.refl _ _ _ _⟩
 case round=>
  obtain⟨k,hk,rfl,m,t⟩:=hrel;have l:=t.own aj;have o:=t.eH ak;have H:(lO a.fs k).length=d:=by rw[oM,s]
  have an:(lO a.fs k).length*9=d*9:=by rw[H]
  by_cases u:k<d
  ·have b1:=o.ce 1 (fN r d c);have b3:=o.ce 3 (eE g);have a0:=wg l u;have I:k+1<d->wr.cell? (eJ r (k+1))=some (eE ((24*(k+1):Nat):Int)):=λh=>wg l h;generalize ha:((24*k:Nat):Int)=f at*;have N:wr.cell? (eJ b (k*9+7))=some (eE 0):=by have:=us rY m.row (by rw[H]) (i:=k) (by omega) (j:=7) (by omega) (v:=eE 0) (by rw[uX (by rw[<-s];exact u)];rfl);exact this
   have O:wr.cell? (eJ b (k*9+8))=some (eE 0):=by have:=us rY m.row (by rw[H]) (i:=k) (by omega) (j:=8) (by omega) (v:=eE 0) (by rw[uX (by rw[<-s];exact u)];rfl);exact this
   have f0:=m.row.frozenAt (k*9+7);have f1:=m.row.frozenAt (k*9+8);have x:=eD m;have W:=eD t;have ao:=eD o;have X:=eD ha;have aC:0<=f/\f+24<=g:=by have:=U.out;omega
   have ap:=am.1;clear m t o l an;have c0:=λD:KW [G,q] wr=>D.cell (ao.ce 0 (fw q)) (by simp);have Y:=λD:KW [G,q] wr=>D.cell (x.eH.ce 9 (fN b (lO a.fs k).length n)) (by simp);rw[H] at Y;have aq:Hid (q≠b):=eD (λe=>vX x.eH x.row (by decide) (by rw[e];rfl));have Z:=eD (x.Oz (k:=k) (by omega) (y:=gR a.fs[k].name a.fs[k].sW true f 24) (by rw[uX (by rw[<-s];exact u)];rfl));simp only[gR] at Z;have ar:Hid ((lO a.fs k).set k (gR a.fs[k].name a.fs[k].sW true f 24)=lO a.fs (k+1)):=eD (by rw[lO,gg (by rw[<-s];exact u),X])
   have p:g=f+24\/k+1<d:=by have:=U.out;have:=X.out;omega
   by_cases ad:k+1<d
   case' pos=>
    replace I:=I ad;have ae:((24*(k+1):Nat):Int)=f+24:=by omega
    rw[ae] at I;clear ae
   case' neg=>clear I;obtain rfl:=p.resolve_right ad
   all_goals
    clear p;have aD:f+24- f=24:=by omega
    go_wp
    refine om [0,1,2,3,4,5,6,7,8,9,10,11,12,13,14,15,16,17] [18,19,20,21] 1 (λE=>∃D:KW [G,q] wr,E=D.w) (by kernel_rfl) (by kernel_rfl) (by decide) (by simp[gj];rfl) (by simp[gj];first|rfl|exact⟨rfl,rfl⟩) ⟨⟨World.drew wr,λ_ _=>rfl⟩,rfl⟩ ?_;repeat(go_big_quiet_step (fail))
    refine eO ?_;clear c0 Y;replace N:(World.drew wr).cell? (eJ b (k*9+7))=some (eE 0):=N;replace O:(World.drew wr).cell? (eJ b (k*9+8))=some (eE 0):=O;replace f0:(World.drew wr).frozen? (eJ b (k*9+7))=false:=f0;replace f1:(World.drew wr).frozen? (eJ b (k*9+8))=false:=f1;have af:=eD (x.ext (eF.drew wr));have ag:=eD (W.ext (eF.drew wr));have J:=eD (af.Oz (k:=k) (by omega) (y:=gR a.fs[k].name a.fs[k].sW true f 24) (by rw[uX (by rw[<-s];exact u)];rfl));have ah:Hid (KC [G,q] wr ((World.drew wr).setCell (eJ b (k*9+7)) (eE f))):=eD (KC.of λau o=>by simp only[fm,gp,gq] at o;exact Dg (World.drew wr) (eJ b (k*9+7)) _ au (by rcases o with rfl|rfl<;>first|exact ap|exact aq))
    simp only[gR] at J;clear Z x W;generalize World.drew wr=v0 at*;refine gH ?_;go_wp
    refine⟨ah, ?_⟩;refine jm ?_;go_wp
    have P:Hid (vf ((v0.setCell (eJ b (k*9+7)) (eE f)).setCell (eJ b (k*9+8)) (eE 24)) B q a (some (eJ b 0)) n own (lO a.fs (k+1))/\CH B uR [] V ((v0.setCell (eJ b (k*9+7)) (eE f)).setCell (eJ b (k*9+8)) (eE 24))):=eD ⟨by rw[<-ar];exact J.1,ag.fk J.2⟩;clear J ag af ah N O f0 f1;go_roundw
    case rel=>exact⟨k+1,by omega,by go_num,P⟩
    case measure=>simp[intOf];omega
  ·obtain rfl:k=d:=by omega
   have b0:=o.ce 0 (fw q);have b5:=m.eH.ce 5 (eW);have P:Hid (vf wr B q a (some (eJ b 0)) n own (lO a.fs k)/\CH B uR [] w wr):=eD ⟨m,(CH.fg al).fk t⟩;clear m t l o;go_wp
   refine wp_loop_rounds 1 ?_;rw[rounds_succ];go_wp
   go_end0
   exact⟨rfl,P⟩
end
section
open Go.RowKit Go.Shelf Go.Maps
theorem CO(a:Int)(h: -9223372036854775808<=a/\a<=9223372036854775807):keyOf prog 336 (.int .i64 a)=some (.int .i64 a):=Maps.keyOf_int_mk (P:=prog) (k:=336) underlying336 (by simp only[Lit.wf,pC,jh];exact h)
theorem E5{B q:Nat}{J:lM}{own:Int}{K:List iV}(h:vf w B q J C n own K)(A:fE)(a c:Nat)(b d f g i:Int):
 Calls prog 92 #[fV (sJ q A a c b d f g i).toArray] w λe L=>e=fH (eW)/\eF w L:=by
 have U:= @run_makeMap prog;have M:=eD h.eH;have v:=eF.alloc w (eN (sJ q A a c b d f g i).toArray 247);have N:=eD v;have O:=eD (eQ.new w 247 (sJ q A a c b d f g i).toArray);have k:=World.ownsMap_made (w.alloc (eN (sJ q A a c b d f g i).toArray 247)) prog 336 rV;rw[fM] at k;have x:=eD k;clear h v k;go_in;go_wp2_with (refine jV _ rfl (.tmp 11) (.const (.int .i64 0)) (.const (.int .i64 0)) 337 rfl 336 271 (int_keyed underlying336) underlying337 rV _ 0 _ rfl x.out (by unfold maxLen;omega) (.int .i64 0) (.int .i64 0) (.int .i64 0) rfl rfl (CO 0 (by omega)) (.held (.int .i64 0)) [] rfl ?_)
 intro V y l;have z:=eD y;clear y;go_wp2_with (refine jV _ rfl (.tmp 11) (.const (.int .i64 1)) (.const (.int .i64 3)) 337 rfl 336 271 (int_keyed underlying336) underlying337 rV _ 1 _ rfl z.out (by unfold maxLen;omega) (.int .i64 1) (.int .i64 3) (.int .i64 1) rfl rfl (CO 1 (by omega)) (.held (.int .i64 3)) [] rfl ?_)
 intro W D m;have E:=eD D;clear D;go_wp2_with (refine jV _ rfl (.tmp 11) (.const (.int .i64 2)) (.const (.int .i64 4)) 337 rfl 336 271 (int_keyed underlying336) underlying337 rV _ 2 _ rfl E.out (by unfold maxLen;omega) (.int .i64 2) (.int .i64 4) (.int .i64 2) rfl rfl (CO 2 (by omega)) (.held (.int .i64 4)) [] rfl ?_)
 intro X F o;have G:=eD F;clear F;go_wp2_with (refine jV _ rfl (.tmp 11) (.const (.int .i64 3)) (.const (.int .i64 5)) 337 rfl 336 271 (int_keyed underlying336) underlying337 rV _ 3 _ rfl G.out (by unfold maxLen;omega) (.int .i64 3) (.int .i64 5) (.int .i64 3) rfl rfl (CO 3 (by omega)) (.held (.int .i64 5)) [] rfl ?_)
 intro H P p;have r:eF w H:=by have Q:=(fi.grown l).ext (N.trans (eF.alloc _ (.map #[] 0)));have R:=(fi.grown m).ext Q;have S:=(fi.grown o).ext R;exact(fi.grown p).ext S
 have I:∀j s t,j<w.heap.size+1->eQ (w.alloc (eN (sJ q A a c b d f g i).toArray 247)) j t s->eQ H j t s:=λj s t Y h=>((((h.alloc (.map #[] 0)).grown l (λe=>by injection e;omega)).grown m (λe=>by injection e;omega)).grown o (λe=>by injection e;omega)).grown p (λe=>by injection e;omega)
 have Z:=(I _ _ _ (by omega) O).ce 0 (fw q);have u:=r.eH M;have ad:=u.ce 11 (eW);have c5:=u.ce 5 (eW);have T:=eD r;clear P l m o p I u r x z E G;go_wp
 refine wp_loop_rounds 1 ?_;rw[rounds_succ];go_wp
 refine wp_loop_rounds 1 ?_;rw[rounds_succ];go_wp
 go_ret;exact⟨rfl,T⟩
end
section
open Go.RowKit Go.Shelf
theorem OG(b:xa)(c:jw)(f:Nat)(d:eI)(h:d.cell? (eJ f 0)=some (eV c)):Calls prog 152 #[fV b.eL.toArray,fw f] d λe i=>e=fH (fz (decide (fI b.name=c)))/\eF d i:=by
 have l:=js h;unfold xa.eL;generalize fI b.name=j at*;by_cases a:j=c
 ·subst a;go_in;go_wp
  go_ret;exact⟨by simp,eF.alloc _ _⟩
 ·have m:=Cp a;have g:=kD a;have k:=eD g;clear a g;go_in;go_wp
  go_ret;exact⟨by rw[k];rfl,eF.alloc _ _⟩
theorem OH(a:List xa)(o:fE)(F:Nat)(c:eI)(p:Rd c o (fO xa.eL a))(N:a.length<=2)(r:(a.map xa.name).Nodup){i:Nat}(G:i<a.length)(k:Nat)(h:c.cell? (eJ k 0)=some (eV (fI a[i].name))):
 Calls prog 151 #[.slice o a F,.func (.func 152) #[] #[fw k]] c λe H=>e=fH (eE i)/\eF c H:=by
 have I:=eD p;have J:=eD h;have K:=eD r;clear p h r;go_in;go_wp
 go_loopw [8] (λl wr=>∃b:Nat,b<=i/\l=eE b/\eF c wr) (λl _=>a.length- (intOf l).toNat)
 case atStart=>exact⟨0,eX _,rfl,eF.refl _⟩
 case round=>
  obtain⟨b,O,rfl,g⟩:=hrel;have s:b<a.length:=by omega
  obtain⟨P,Q,rfl,R,t,u,v,w,x,y,z,A,B,C⟩:=Ng uJ (g.rd I) s rfl;have d:=eD (OG a[b] (fI a[i].name) k wr (g.cell J));unfold xa.eL at d;have m:b≠i->¬fI a[b].name=fI a[i].name:=λL e=>L (by have:=fZ K (i:=b) (j:=i) (by simpa using s) (by simpa using G) (by simpa using CK e);exact this)
  have D:=eD g;clear g;by_cases E:b=i
  ·subst E;simp only[Is] at d;clear m;go_wp
   refine d.mono ?_;rintro e M ⟨rfl,f⟩;have n:=eD (D.trans f);clear f t u v w x y z A B C;go_wp2;go_ret;exact⟨rfl,n⟩
  ·rw[kD (m E)] at d;clear m;go_wp
   refine d.mono ?_;rintro e M ⟨rfl,f⟩;have n:=eD (D.trans f);clear f t u v w x y z A B C;go_wp2;go_roundw
   case rel=>exact⟨b+1,by omega,by go_num,n⟩
   case measure=>simp[intOf];omega
theorem zk{B q:Nat}{a:lM}{own:Int}{P:List iV}(h:vf w B q a C n own P)(r:Rp a)(y:oC w a){B1:Nat}{A:fE}{c:Nat}(z:w.ownsRow B1 3 1 (.slice A a.fs c) a.fs (ints (zY a.fs)))(d f g i j:Int)(k:List gh)(D:fE)(E:Nat)(F:Rd w D (iy k))(out:fS)(Q:(k=[]/\out=[])\/∃b,∃s:b<a.fs.length,k=[a.fs[b].name]/\out=[((24*b:Nat):Int)]):
 Calls prog 87 #[fV (sJ q A a.fs c d f g i j).toArray,.slice D k E] w (ir w 3 1 out (ints out)):=by
 have R:=r.iO;have S:=eD h.eH;have T:=eD y.Ej.rd;have G:=eD z;have U:=eD r.JZ;have V:=eD F;clear h r y z F;rcases Q with⟨rfl,rfl⟩|⟨b,s,rfl,rfl⟩
 ·go_in;go_wp
  refine wp_loop_rounds 1 ?_;rw[rounds_succ];go_wp
  go_ret;exact⟨_,rfl,ji _ _ _ _,eF.alloc _ _⟩
 ·obtain⟨W,X,rfl,l⟩:=V 0 (by simp[iy]);replace l:w.cell? (eJ W X)=some (eV (fI a.fs[b].name)):=l;have ah:=js l;obtain⟨m,ai,Y,_,aj,_⟩:=jI G (by omega);injection Y with Z ad ae
  subst Z;clear ad ae;have H:=eD (wg G s);have I:=eD (λJ (hx:eF w J) bx h=>OH a.fs a.FA a.fc J (hx.rd T) R.2 U s bx h);generalize fI a.fs[b].name=o at*;generalize ha:((24*b:Nat):Int)=K at*;clear ha;show Calls prog _ #[_,.slice _ 1 E] w (ir w 3 1 1 (ints [K]));have t:=(eF.alloc w (eN (sJ q (some (eJ m 0)) a.fs.length c d f g i j).toArray 247)).trans (eF.alloc _ (eN #[eV o] 9));have u:=eD t;have h4:=(t.eH S).ce 4 (.slice a.FA a.fs.length a.fc);have L:=eD ((eQ.new w 247 (sJ q (some (eJ m 0)) a.fs.length c d f g i j).toArray).alloc (eN #[eV o] 9));have v:=(eQ.new (w.alloc (eN (sJ q (some (eJ m 0)) a.fs.length c d f g i j).toArray 247)) 9 #[eV o]).ce 0 (eV o);rw[fM] at v;have M:=eD v;clear t v;go_in;go_wp
  refine wp_loop_rounds 2 ?_;rw[rounds_succ];go_wp
  refine(I _ u _ M).mono ?_;rintro e w2 ⟨rfl,p⟩;have h1:=(p.eH L).ce 1 (fN m a.fs.length c);have a1:=(u.trans p).cell H;have N:=eD (u.trans p);clear p l h4 L M H I;go_wp2_with (at_builtin;go_loud(refine jQ rfl _ _ rfl (ji _ w _ _) N.size rfl [eE K] rfl rfl (by simp[Value.oneCell']) (by omega) ?_))
  intro v3 w3 x O _;obtain⟨A3,c3,rfl⟩:=eR x;have af:=eD ((fi.grown (hQ O)).ext N (λak hk=>by cases hk));have ag:=eD x;clear x O h1 a1;go_wp
  rw[rounds_succ];go_wp
  go_ret;exact⟨_,rfl,ag,af⟩
end
section
open Go.RowKit Go.Shelf Pl
theorem tU(a:eI):Calls prog 86 #[eW] a λe b=>e=fH (eW)/\a=b:=by
 have c:=λa:eI=>Lib.run_eql_slice_nil (P:=prog) a 47 9 none 0 0 0 0 underlying47;go_in;go_wp
 go_ret;exact⟨rfl,rfl⟩
theorem Rx(a:eI):(Instr.makeSlice 23 (eE 0) (eE 0)).run prog a=.ok (fN a 0 0) (a.alloc (eN #[] 3)):=by
 obtain⟨c,d,f,g,i⟩:=info_parts lr;have b:=yf (P:=prog) a 23 3 c (eE 0) underlying23 d f .i64 .i64 0 0 (by omega) (by omega) (by rw[i];omega) (by omega);simp only[Int.reduceToNat] at b;rw[b,g];have e:madeCells (Value.int .i64 0).cells (0*1)=#[]:=by simp[madeCells]
 rw[e]
theorem vD.UP{c:Nat}{i:List Bk}(h:vD w v n c i):fo w v (i.map λa=>(a.cell,a.is)):=by
 refine⟨λd m b=> ?_,λd j m q s b k l o=> ?_⟩
 ·rw[vy] at b;obtain⟨a,g,rfl⟩:=OI.1 b;exact h.each d a g
 ·rw[vy] at b k;obtain⟨p,r,rfl⟩:=OI.1 b;obtain⟨a,g,rfl⟩:=OI.1 k;rcases Nat.decEq d j with e|e
  ·rcases h.apart d j p a r g e with f|f
   ·rw[l] at f;cases f
   ·exact absurd (l.trans o.symm) f
  ·exact e
abbrev P7(nm:jw)(fl:Int)(sg nd sy b1 b2 b3 P8 VO:eS):fY:=[eV nm,eE fl,sg,nd,eW,sy,b1,b2,b3,eW,eW,P8,VO,eW,eE 0]
abbrev je:eS:=eW
abbrev TI:fY:=P7 ⟨#[]⟩ 0 je je je je je (eE 0) je je
def UQ:mB:=[245,118,174,130]
structure G8(w0 w:eI)(x:lM)(gl gi:Nat)(LY L:fY):Prop where
 sp:eQ w w0 51 x.eL.toArray
 re:eQ w (w0.heap.size+1) 174 TI.toArray
 ly:eQ w gl 247 LY.toArray
 im:eQ w gi 174 L.toArray
 lo:w0.heap.size+1<gl/\w0.heap.size+1<gi
 ch:CH w0 UQ [] w0 w
theorem G8.ext{w w':eI}{x:lM}{L:fY}(h:G8 v w x n k l L)(a:eF w w'):G8 v w' x n k l L:=⟨a.eH h.sp,a.eH h.re,a.eH h.ly,a.eH h.im,h.lo,h.ch.ext a⟩
theorem G8.set{w:eI}{x:lM}{L:fY}(h:G8 v w x n k l L)(i:Nat)(u:eS){L':fY}(e:L.set i u=L'):G8 v (w.setCell (eJ k i) u) x n k l L'/\CH v [174] [] w (w.setCell (eJ k i) u):=by have a:CH v [174] [] w (w.setCell (eJ k i) u):=CH.set h.im (by have:=h.lo;omega) (by decide) i u;exact⟨⟨a.eH h.sp,h.re.ub (by have:=h.lo;simp only;omega) _,a.eH h.ly,by rw[<-e];simpa using h.im.set i u,h.lo,h.ch.fk (a.mono (by decide) (λ_ h=>h))⟩,a⟩
theorem G8.grown{w w':eI}{x:lM}{L:fY}{e:ik}{size n:Nat}{v:eS}{xs:fY}(h:G8 u w x k m l L)(b:w.ownsRow u e size v n xs)(c:e=130)(g:w.grownBy w' v.ownBlock):G8 u w' x k m l L/\CH u [e] [] w w':=by subst c;have a:CH u [130] [] w w':=CH.grown g b (by decide);exact⟨⟨a.eH h.sp,a.eH h.re,a.eH h.ly,a.eH h.im,h.lo,h.ch.fk (a.mono (by decide) (λ_ h=>h))⟩,a⟩
theorem I3{c:lM}{b:List gh}(h:(b=[]/\kM=[])\/∃a d,c.fs[a]? =some d/\b=[d.name]/\kM=[((24*a:Nat):Int)]):(b=[]/\kM=[])\/∃a,∃f:a<c.fs.length,b=[c.fs[a].name]/\kM=[((24*a:Nat):Int)]:=
 h.imp id λ⟨a,d,g,i,j⟩=>by obtain⟨f,rfl⟩:=jS.1 g;exact⟨a,f,i,j⟩
structure TJ(w0 w:eI)(q:Nat)(x:lM)(s:lu)(SA:fE)(sc:Nat)(own:Int)(l:List iV)(NB:fE)(nb:Nat)(IA:fE)(ic:Nat)(EA:fE)(ec:Nat):Prop where
 p:vf w w0 q x SA sc own l
 n:w.ownsRow w0 130 2 (.slice NB x.ft nb) x.ft (fO mr x.ft)
 ie:fo w0 w [(.slice IA s.inits ic,s.inits),(.slice EA s.gJ ec,s.gJ)]
theorem TJ.ch{w:eI}{q:Nat}{x:lM}{s:lu}{sc:Nat}{own:Int}{l:List iV}(h:TJ v w q x s A sc own l C n H k I m){B:Nat}(a:CH B [174] [] w u):TJ v u q x s A sc own l C n H k I m:=
 ⟨⟨a.eH h.p.eH,h.p.low,a.own h.p.row⟩,a.own h.n,h.ie.ch a⟩
theorem TJ.ext{w w':eI}{q:Nat}{x:lM}{s:lu}{sc:Nat}{own:Int}{l:List iV}(h:TJ v w q x s A sc own l C n H k I m)(a:eF w w'):TJ v w' q x s A sc own l C n H k I m:=h.ch (B:=0) (CH.fg a)
def K4(w:eI)(s:lu)(e:Ending)(w':eI):Prop:=∃m:Im,e=fH (ij #[fV m.eL.toArray,eE 0])/\my w' w m s/\j5 m.t s.gy=true/\eF w w'
theorem K5(a:lM)(f:lu)(hs:Cm a f)(hI:Bh f)(bJ:oC w a):Calls prog 56 #[fV a.eL.toArray] w (K4 w f):=by
 have aZ:=hs.VN;have a0:=aZ.iO;have Q:=eD hs;have al:=eD aZ;have K:=eD hI;have R:=eD bJ;clear hs aZ hI bJ;unfold lM.eL;go_in;go_wp
 have am:=eD (((eF.alloc w (eN a.eL.toArray 51)).trans (eF.alloc _ (eN TI.toArray 174))).trans (eF.alloc _ (eN (a.eL++Sp none 0 0 0).toArray 245)));have bK:=((eQ.new w 51 a.eL.toArray).alloc (eN TI.toArray 174)).alloc (eN (a.eL++Sp none 0 0 0).toArray 245);have a1:=(eQ.new (w.alloc (eN a.eL.toArray 51)) 174 TI.toArray).alloc (eN (a.eL++Sp none 0 0 0).toArray 245);have a2:=eQ.new ((w.alloc (eN a.eL.toArray 51)).alloc (eN TI.toArray 174)) 245 (a.eL++Sp none 0 0 0).toArray;rw[fM] at a1;rw[fM,fM] at a2;have a3:=eD bK;have a4:=eD a1;have a5:Hid (vf (((w.alloc (eN a.eL.toArray 51)).alloc (eN TI.toArray 174)).alloc (eN (a.eL++Sp none 0 0 0).toArray 245)) w (w.heap.size+1+1) a none 0 0 []):=eD ⟨a2,by omega,ji _ _ _ _⟩;clear bK a1 a2;simp only[lM.eL,TI,P7,je,Sp,nO,j6] at am a3 a4 a5;generalize World.alloc _ _=w3 at*;refine(KU a5 al (R.ext am) am.size).mono ?_;rintro e w4 ⟨own,n,o,rfl,a6,t⟩;have d13:=a6.eH.ce 13 (eE 0);have an:Hid (CH w UQ [] w w4):=eD ((CH.fg am).fk (t.mono (by decide) (λ_ h=>h)));have bL:=eD (t.eH a3);have a7:=eD (t.eH a4);have a8:=eD a6;clear a6 t a3 a4 a5 am;go_wp21
 have bM:=eD (λ(D:eI) B n o own (h:vf D B (w.heap.size+1+1) a n o own (jZ a.fs)) B1 A c W=>E1 h a0 (B1:=B1) (A:=A) (c:=c) W);have a9:=eD (Rr a8 al (R.ext (an.lP (eF.refl _) (fJ _))));unfold CM at a9;generalize hT:((24*a.fs.length:Nat):Int)=g at*;clear hT;refine a9.mono ?_;rintro e w5 ⟨u,v,rfl,bN,a'⟩;clear a9;generalize hq:w.heap.size+1+1=q at*;have bb:=eF.alloc w5 (eN (sJ q u a.fs.length v g 64 64 g 64).toArray 247);have aC:=eD (eQ.new w5 247 (sJ q u a.fs.length v g 64 64 g 64).toArray);have ao:=a'.trans bb;have bO:=eD (an.ext ao);have ap:=eD (ao.eH bL);have bP:=eD (ao.eH a7);have bQ:=eD (a8.ext ao);have bR:=eD (bb.own bN);have cD:w.heap.size+1<w5.heap.size:=by have:=(a'.eH a7).lt;omega
 clear bN a' bb ao an bL a7 a8 d13;go_wp2;generalize w5.alloc (eN #[fw q,.slice u a.fs.length v,eW,eE g,eE 64,eE 64,eE 0,eE g,eE 64,eE 0] 247)=w6 at*;generalize w5.heap.size=E at*;have e0:=ap.ew 0 (eV (fI a.name)) rfl;have e1:=ap.ew 1 (eE a.gB) rfl;have e3:=ap.ew 3 (eW) rfl;have e9:=aC.ew 9 (eE 0) rfl;have X:Hid (∀ag,eF w6 ag->∃d,ag.heap.size=d/\G8 w (ag.alloc (eN (P7 (fI a.name) a.gB je je je je je (eE 0) je je).toArray 174)) a E d (sJ q u a.fs.length v g 64 64 g 64) (P7 (fI a.name) a.gB je je je je je (eE 0) je je)/\eF w6 (ag.alloc (eN (P7 (fI a.name) a.gB je je je je je (eE 0) je je).toArray 174))):=eD (λag j=>by have aq:=j.trans (eF.alloc ag (eN (P7 (fI a.name) a.gB je je je je je (eE 0) je je).toArray 174));exact⟨_,rfl,⟨aq.eH ap,aq.eH bP,aq.eH aC,eQ.new _ _ _,⟨cD,by have:=(j.eH aC).lt;omega⟩,bO.ext aq⟩,aq⟩)
 go_cut [6] (λs6 wx=>∃d,s6=fw d/\G8 w wx a E d (sJ q u a.fs.length v g 64 64 g 64) (P7 (fI a.name) a.gB je je je je je (eE 0) je je)/\eF w6 wx)
 case first=>
  refine iW [0,1,2,3,4,5,7,8] [6,10] (.jG (.e [6] (.q [9] (.e [10] (.e [11] .done)))) (.e [10] (.e [6] (.q [9] (.e [11] .done))))) ?_;repeat(go_big_quiet_step (fail))
  refine eO ?_;clear e0 e1 e3 e9;have x:=eD (eF.drew w6);generalize World.drew w6=v0 at*;refine fX ?_ ?_
  ·refine eZ ?_;go_wp
   refine(tU _).mono ?_;rintro e w7 ⟨rfl,rfl⟩;go_wp2;refine⟨⟨⟨_,x⟩,rfl⟩, ?_⟩;refine fj ?_;repeat(go_big_quiet_step (fail))
   refine eO ?_;refine eZ ?_;go_wp
   refine⟨⟨⟨_,x.trans (eF.alloc _ _)⟩,rfl⟩, ?_⟩;refine eT ?_;go_wp
   refine iH ?_;refine fP ?_;go_wp
   go_meet;obtain⟨d,rfl,h⟩:=X _ x;exact⟨_,rfl,h⟩
  ·refine eZ ?_;go_wp
   refine⟨⟨⟨_,x.trans (eF.alloc _ _)⟩,rfl⟩, ?_⟩;refine eZ ?_;go_wp
   refine(tU _).mono ?_;rintro e w7 ⟨rfl,rfl⟩;go_wp2;refine⟨⟨⟨_,x.trans (eF.alloc _ _)⟩,rfl⟩, ?_⟩;refine fj ?_;repeat(go_big_quiet_step (fail))
   refine eO ?_;refine eT ?_;go_wp
   refine iH ?_;refine fP ?_;go_wp
   go_meet;obtain⟨d,rfl,h⟩:=X _ x;exact⟨_,rfl,h⟩
 case rest=>
 obtain⟨d,rfl,l,j⟩:=hcut;have c2:=l.sp.ce 2 (.slice a.NA a.ft.length a.nc);have bS:=eD l;have aD:=eD (bQ.ext j);have bT:=eD (j.own bR);have aE:a.ft.length<=8:=by rw[Q.ft];exact K.ok.h'
 have cE:=l.sp.lt;clear cE l j bQ bR bO ap bP aC X e0 e1 e3 e9;go_wp
 clear c2;go_loopw [58] (λar wr=>∃k y z,k<=a.ft.length/\ar=eE (k:Nat)/\G8 w wr a E d (sJ q u a.fs.length v g 64 64 g 64) (P7 (fI a.name) a.gB je (.slice y k z) je je je (eE 0) je je)/\wr.ownsRow w 130 2 (.slice y k z) k (fO mr (a.ft.take k))/\CH w [174,130] [] wc wr) (λar _=>a.ft.length- (intOf ar).toNat)
 case atStart=>exact⟨0,none,0,eX _,rfl,bS,ji _ _ _ _,CH.refl _ _ _ _⟩
 case round=>
  obtain⟨k,y,z,hk,rfl,l,W,p⟩:=hrel;by_cases bU:k<a.ft.length
  ·obtain⟨r,cV,hA,hb,d0,d1⟩:=xl ((l.ch.lP (eF.refl _) (fJ _)).rd R.h'.rd) bU;rw[hA];have cF:=eD (iz bU);generalize cG:a.ft[k]=nm at*;have s:=eD l;have N:=eD W;have HC:=eD p;obtain⟨i,rfl⟩:∃i,i=wr:=⟨wr,rfl⟩;clear hA l W p cG;go_wp
   have aF:=eF.alloc i (eN #[eV (fI nm),eW] 130);have aG:=eD (s.ext aF);have bV:=eD (aF.own N);have bW:=eD (HC.ext aF);have aH:=eD (eQ.new i 130 #[eV (fI nm),eW]);have aI:Hid (∀r∈[d,i.heap.size],some r≠(Value.slice y k z).ownBlock/\r<(i.alloc (eN #[eV (fI nm),eW] 130)).heap.size):=eD (λr hb=>by
    simp only[fm,gp,gq] at hb;rcases hb with rfl|rfl
    ·exact⟨vX s.im N (by decide),aG.im.lt⟩
    ·exact⟨λe=>by have:=(N.lt _ e.symm).2;omega,aH.lt⟩)
   clear aF s N HC d0 d1;generalize i.alloc (eN #[eV (fI nm),eW] 130)=F at*;generalize i.heap.size=gn at*;have c3:=λC:KW [d,gn] F=>C.cell (aG.im.ce 3 (.slice y k z)) (by simp);have c0:=λC:KW [d,gn] F=>C.cell (aH.ce 0 (eV (fI nm))) (by simp);have c1:=λC:KW [d,gn] F=>C.cell (aH.ce 1 (eW)) (by simp);refine gU [d,gn] [0,1,2,3,4,5] [6,7,8,9,10,11] 3 ?_;repeat(go_big_quiet_step (fail))
   refine eO ?_;clear c0 c1 c3;have bc:=eD (aG.ext (eF.drew F));have bd:=eD ((eF.drew F).own bV);have bX:=eD (bW.ext (eF.drew F));have aJ:Hid (KC [d,gn] F (World.drew F)):=eD (KC.of λ_ _=>rfl);replace aI:Hid (∀r∈[d,gn],some r≠(Value.slice y k z).ownBlock/\r<(World.drew F).heap.size):=eD aI;clear aG bV bW aH;generalize World.drew F=v0 at*;refine gH ?_;go_wp
   refine(tU _).mono ?_;rintro e w7 ⟨rfl,rfl⟩;go_wp2;refine⟨aJ, ?_⟩;refine gH ?_;go_wp
   refine⟨aJ, ?_⟩;refine gH ?_;go_wp
   refine⟨aJ.ext (λr hb=>(aI r hb).2) (eF.alloc _ _), ?_⟩;refine jm ?_;have bY:=eD bc.ch.size;go_wp2_with (at_builtin;go_loud(refine yH rfl _ _ rfl bd bY rfl [eV (fI nm),eW] rfl rfl (by simp[Value.oneCell']) (by omega) ?_))
   intro v3 w3 o3 g3 _;obtain⟨N3,n3,rfl⟩:=eR o3;obtain⟨O,au⟩:=bc.grown bd rfl (hQ g3);obtain⟨av,t⟩:=O.set 3 (.slice N3 (k+1) n3) rfl;have k3:=O.im.ce 3 (.slice y k z);have f3:=O.im.frozen 3;have cH:=eD av;have cI:Hid ((w3.setCell (eJ d 3) (.slice N3 (k+1) n3)).ownsRow w 130 2 (.slice N3 (k+1) n3) (k+1) (fO mr (a.ft.take (k+1)))):=eD (by rw[cF,hZ,lq,Aw,ox];exact t.own o3)
   have an:=eD ((bX.fk (au.mono (by decide) (λ_ h=>h))).fk (t.mono (by decide) (λ_ h=>h)));clear O av au t o3 g3 bc bd bX aJ aI bY;go_wp
   go_roundw
   case rel=>exact⟨k+1,N3,n3,by omega,by go_num,cH,cI,an⟩
   case measure=>simp[intOf];omega
  ·obtain rfl:k=a.ft.length:=by omega
   rw[iT] at W;have s:=eD l;have bZ:=eD W;have HP:=eD (show vf wr w q a n o own (jZ a.fs) from⟨p.eH aD.eH,aD.low,p.own aD.row⟩);have N:=eD (p.own bT);obtain⟨i,rfl⟩:∃i,i=wr:=⟨wr,rfl⟩;clear l W p aD bT bS;go_wp
   obtain⟨L,hL⟩:∃L:fY,L=sJ q u a.fs.length v g 64 64 g 64:=⟨_,rfl⟩;have Y:=eD (s.ch.lP (eF.refl _) (fJ _));have aK:=eD (λD (j:eF i D)=>zk (HP.ext j) al (R.ext (Y.trans j)) (j.own N) g 64 64 g 64 a.inits a.IA a.ic ((Y.trans j).rd R.rM.rd) f.inits (I3 Q.inits));have aL:=eD (λD (j:eF i D)=>zk (HP.ext j) al (R.ext (Y.trans j)) (j.own N) g 64 64 g 64 a.gJ a.EA a.ec ((Y.trans j).rd R.yv.rd) f.gJ (I3 Q.gJ));rw[<-hL] at aK aL;have aM:Hid (∀D,(∃C:EW i,D=C.w)->(loadVar 247 (eJ E 0)).run prog D=.ok (fV L.toArray) D):=eD (λD ⟨C,e⟩=>by subst e;rw[hL];exact(C.ext.eH s.ly).fK 247 _ underlying247 rfl (by kernel_rfl))
   have e7:=s.sp.ew 7 (.slice a.IA a.inits.length a.ic) rfl;have e8:=s.sp.ew 8 (.slice a.EA a.gJ.length a.ec) rfl;have HL:=eD hL;clear hL;go_cut [6] (λs6 wx=>s6=fw d/\∃G H I J,G8 w wx a E d (sJ q u a.fs.length v g 64 64 g 64) (P7 (fI a.name) a.gB je (.slice y a.ft.length z) je je je (eE 0) (.slice G f.inits.length H) (.slice I f.gJ.length J))/\fo w wx [(.slice G f.inits.length H,f.inits),(.slice I f.gJ.length J,f.gJ)]/\CH w [174] [] i wx)
   case first=>
    refine iW [0,1,2,4,5,6] [3,8] (.e [3] (.jG (.e [7] (.e [8] (.e [9] (.q [10] (.e [11] .done))))) (.e [8] (.e [7] (.e [9] (.q [10] (.e [11] .done))))))) ?_;refine fR rfl 247 (.tmp 5) rfl _ _ rfl aM (by simp[Act.put];rfl) ?_;iterate 2 (go_big_quiet_step (fail))
    refine fR rfl 247 (.tmp 5) rfl _ _ rfl aM (by simp[Act.put];rfl) ?_;iterate 2 (go_big_quiet_step (fail))
    refine eO ?_;clear e7 e8 aM;have x:=eD (eF.drew i);generalize World.drew i=v0 at*;refine eZ ?_;go_wp
    refine(aK _ x).mono ?_;rintro e v1 ⟨vi,rfl,Z,x1⟩;obtain⟨G,H,rfl⟩:=eR Z;have aw:=eD (x.trans x1);have b0:=eD (fq Z (eY Y.size x.size));clear Z x1 aK;go_wp2;refine⟨⟨⟨_,aw⟩,rfl⟩, ?_⟩;refine fX ?_ ?_
    case' refine_2=>
     refine eZ ?_;go_wp
     refine⟨⟨⟨_,aw⟩,rfl⟩, ?_⟩
    all_goals
     refine eT ?_;go_wp
     refine(aL _ aw).mono ?_;rintro e v2 ⟨ve,rfl,oe,x2⟩;obtain⟨I,J,rfl⟩:=eR oe;have ax:=eD (aw.trans x2);have b1:=eD ((fo.one b0).add x2 (.one oe) (eY Y.size aw.size));clear oe x2 b0 aL x;obtain⟨O,au⟩:=(s.ext ax).set 11 (.slice G f.inits.length H) rfl;obtain⟨av,t⟩:=O.set 12 (.slice I f.gJ.length J) rfl;have cW:=(s.ext ax).im.ce 11 (eW);have cX:=O.im.ce 12 (eW);have f11:=(s.ext ax).im.frozen 11;have f12:=O.im.frozen 12;have be:=au.fk t;have X:Hid (G8 w _ a E d _ _/\fo w _ _/\CH w [174] [] i _):=eD ⟨av,b1.ch be,(CH.fg ax).fk be⟩;clear O av au t be b1;go_wp2;refine iH ?_;first
     |(refine eZ (k:=8) ?_
       go_wp
       refine⟨⟨⟨_,ax⟩,rfl⟩, ?_⟩)
     |skip
     refine eT ?_;go_wp
     refine iH ?_;refine fj ?_;repeat(go_big_quiet_step (fail))
     refine eO ?_;refine eT ?_;go_wp
     refine iH ?_;refine fP ?_;go_wp
     go_meet;exact⟨rfl,G,H,I,J,X⟩
   case rest=>
   obtain⟨rfl,G,H,I,J,l,b2,p⟩:=hcut;have aN:vf wc w q a n o own (jZ a.fs):=⟨p.eH HP.eH,HP.low,p.own HP.row⟩;have d13:=aN.eH.ce 13 (eE 0);have d9:=aN.eH.ce 9 (.slice n (jZ a.fs).length o);rw[show(jZ a.fs).length=a.fs.length by simp[jZ]] at d9;have g8:=l.ly.ce 8 (eE 64);have g9:=l.ly.ce 9 (eE 0);have bf:=eD (bM wc _ _ _ _ aN _ u v (p.own N));rw[<-HL] at bf;have b3:Hid ((loadVar 247 (eJ E 0)).run prog wc=.ok (fV L.toArray) wc):=eD (by rw[HL];exact l.ly.fK 247 _ underlying247 rfl (by kernel_rfl))
   have ad:=eD l;have bg:=eD (And.intro (p.own bZ) b2);clear aN l b2 p s HP N bZ Y aK aL aM e7 e8 bM;go_wp2_with (refine eK rfl 247 (.tmp 5) rfl _ rfl (fV L.toArray) b3 ?_)
   refine bf.mono ?_;rintro e w8 ⟨rfl,b4,S⟩;have aO:=eD (show G8 w w8 a E d _ _ from⟨S.eH ad.sp,S.eH ad.re,S.eH ad.ly,S.eH ad.im,ad.lo,ad.ch.fk (S.mono (by decide) (λ_ h=>h))⟩);have bh:Hid (TJ w w8 q a f n o own (lO a.fs a.fs.length) y z G H I J):=eD ⟨b4,S.own bg.1,bg.2.ch S⟩;have aP:=eD (aO.ch.lP (eF.refl _) (fJ _));have b5:Hid ((loadVar 247 (eJ E 0)).run prog w8=.ok (fV L.toArray) w8):=eD (by rw[HL];exact aO.ly.fK 247 _ underlying247 rfl (by kernel_rfl))
   have bi:=eD (vZ bh.p a0 (R.ext aP) u a.fs.length v g 64 64 g 64);rw[<-HL] at bi;clear b4 S d13 d9 g8 g9 bf b3 ad bg;go_wp2_with (refine eK rfl 247 (.tmp 5) rfl _ rfl (fV L.toArray) b5 ?_)
   refine bi.mono ?_;rintro e w9 ⟨vi,rfl,Z,x9⟩;obtain⟨CA,cJ,rfl⟩:=eR Z;have bj:=eD (Oy (py a.fs) (by rw[vY];omega) (λar hi=>by obtain⟨cK,hf,hi⟩:=rA.1 hi;exact M9 _ (al.low cK hf).2.2.2.2 ar hi) CA cJ (Rd.gY Z))
   rw[vY] at bj;clear Z bi b5;go_wp21
   refine bj.mono ?_;rintro e cY ⟨TA,tc,rfl,ot,b6⟩;have bk:j8 (py a.fs)=f.gC:=by rw[Q.out.gC];rfl
   have bl:8*(py a.fs).length=f.gC.length:=by rw[<-bk,na];omega
   rw[bk,bl] at ot;rw[bl];have cZ:=K.ok.QS;have c4:=K.ok.QT;have x8:=x9.trans b6;have ay:=eD (aO.ext x8);have b7:=eD (bh.ext x8);have b8:=eD (fq ot (eY aP.size x9.size));have b9:=eD (eY aP.size x8.size);clear ot x9 b6 x8 aO bh aP bj bk bl;generalize cL:f.gC.length=tn at*;have c6:max 1 ((tn:Nat):Int)=tn:=by omega
   have k2:=ay.im.ce 2 (eW);have f2:=ay.im.frozen 2;go_wp2_with (at_builtin;go_loud(refine AZ rfl _ _ rfl (ji _ w _ _) b9 rfl [eE 0,eE tn,.slice TA tn tc,eE 5] rfl rfl (by simp[Value.oneCell']) (by omega) ?_))
   intro c7 cM bm b' _;obtain⟨SG,sg,rfl⟩:=eR bm;have ah:=(fi.grown (hQ b')).ext (eF.refl _) (λk hk=>by cases hk);obtain⟨ca,aQ⟩:=(ay.ext ah).set 2 (.slice SG 1 sg) rfl;replace k2:=ah.cell k2;replace f2:=(ah.eH ay.im).frozen 2;have bn:=eD ca;have aR:=eD ((b7.ext ah).ch aQ);have bo:=eD (And.intro (aQ.own bm) (aQ.own (ah.own b8)));clear ca aQ bm b' ah ay b7 b8 b9;go_wp
   clear k2 f2;generalize cM.setCell (eJ d 2) (.slice SG 1 sg)=cb at*;have e0:=bn.ly.ew 0 (fw q) rfl;have cN:=aR.p.eH.ew 11 (eW) rfl;have cO:=aR.p.eH.ew 12 (eW) rfl;refine mY [0,1,2,3,4,5,6,7,8,9,10,11,12] [13,14] ?_;repeat(go_big_quiet_step (fail))
   refine eO ?_;clear e0 cN cO;have az:=(eF.alloc cb (eN #[] 3)).trans (eF.drew _);have ai:=eD (bn.ext az);have bp:=eD (aR.ext az);have bq:=eD (And.intro (az.own bo.1) (az.own bo.2));clear az bn aR bo;have cP:=Rx;have c5:=ai.sp.ce 5 (eW);go_wp
   clear cP;generalize World.drew (cb.alloc (eN #[] 3))=cc at*;refine wp_loop_rounds 1 ?_;rw[rounds_succ];have cd:Hid ((loadVar 247 (eJ E 0)).run prog cc=.ok (fV L.toArray) cc):=eD (by rw[HL];exact ai.ly.fK 247 _ underlying247 rfl (by kernel_rfl))
   have br:=eD (E5 bp.p u a.fs.length v g 64 64 g 64);rw[<-HL] at br;go_wp2_with (refine eK rfl 247 (.tmp 5) rfl _ rfl (fV L.toArray) cd ?_)
   refine br.mono ?_;rintro e ce ⟨rfl,ae⟩;obtain⟨bs,aS⟩:=(ai.ext ae).set 9 je rfl;have aT:=eD ((bp.ext ae).ch aS);have bt:=eD (And.intro (aS.own (ae.own bq.1)) (aS.own (ae.own bq.2)));have k9:=(ai.ext ae).im.ce 9 (eW);have f9:=(ai.ext ae).im.frozen 9;have g0:=bs.ly.ce 0 (fw q);have d12:=aT.p.eH.ce 12 (eW);have aU:=eD bs;clear bs aS ai bp bq cd br c5 ae;go_wp2;clear k9 f9;refine wp_loop_rounds 1 ?_;rw[rounds_succ];have d9:=aT.p.eH.ce 9 (.slice n (lO a.fs a.fs.length).length o);rw[oM] at d9;have k5:=aU.im.ce 5 (eW);have f5:=aU.im.frozen 5;obtain⟨cf,aV⟩:=aU.set 5 (.slice n a.fs.length o) rfl;have aW:=eD (aT.ch aV);have bu:=eD (And.intro (aV.own bt.1) (aV.own bt.2));have bv:=eD cf;have bw:=eD ((K2 a0).trans Q.gy.symm);have bx:f.gy.length=a.fs.length:=by rw[<-bw,oM]
   have bz:=eD (M7 n o f.gy ((ce.setCell (eJ d 9) je).setCell (eJ d 5) (.slice n a.fs.length o)) (by rw[<-bw];exact vV (Rd.gY aW.p.row)) K.vq (by rw[bx];omega));rw[bx] at bz;clear cf aV aT bt aU;go_wp
   refine bz.mono ?_;rintro e aj (⟨c8,_⟩|⟨_,b,rfl,T,cg,ch,ci⟩)
   ·omega
   obtain⟨tg,cj,bA⟩:=T.b;have U:=eD (bv.ext T.x);have ck:=eD (aW.ext T.x);have bB:=eD (And.intro (T.x.own bu.1) (T.x.own bu.2));have aX:=eY bv.ch.size (fJ _);have aY:Hid (aj.ownsRow w 23 1 (.slice b.BA b.bs.length b.bc) b.bs.length (b.bs.map Bk.cell)/\aj.ownsRow w 270 1 (.slice b.WA b.ws.length b.wc) b.ws.length (kq b.ws)/\fo w aj ((Value.slice G f.inits.length H,f.inits)::(Value.slice I f.gJ.length J,f.gJ)::b.bs.map λr=>(r.cell,r.is))):=
    eD ⟨by rw[cj];exact fq bA.row aX,fq T.f aX,by simpa using aW.out.ie.add T.x bA.UP aX⟩
   have V:=eD (And.intro cg (And.intro ch ci));clear T bA cj cg ch ci bv aW bu bz aX;have k6:=U.im.ce 6 (eW);have k7:=U.im.ce 7 (eW);have k8:=U.im.ce 8 (eE 0);have f6:=U.im.frozen 6;have f7:=U.im.frozen 7;have f8:=U.im.frozen 8;simp only[Tb.eL];generalize((ce.setCell (eJ d 9) je).setCell (eJ d 5) (.slice n a.fs.length o))=c9 at*;obtain⟨cl,cm⟩:=U.set 6 (.slice b.BA b.bs.length b.bc) rfl;obtain⟨cn,cp⟩:=cl.set 7 (.slice b.WA b.ws.length b.wc) rfl;obtain⟨aA,cq⟩:=cn.set 8 (eE b.sh) rfl;have af:=(cm.fk cp).fk cq;have bC:=eD (ck.ch af);obtain⟨m,hm⟩:∃m:Im,m=⟨fI a.name,a.gB,⟨SG,1,sg⟩,⟨y,a.ft.length,z⟩,Vo,n,o,f.gy,b,Vo,Vo,⟨G,f.inits.length,H⟩,⟨I,f.gJ.length,J⟩,Vo,0⟩:=⟨_,rfl⟩;have cr:=aA.im;have cs:my (((aj.setCell (eJ d 6) (.slice b.BA b.bs.length b.bc)).setCell (eJ d 7) (.slice b.WA b.ws.length b.wc)).setCell (eJ d 8) (eE b.sh)) w m f:=by
    have aE:=Q.ft;subst hm cL;exact⟨by rw[Q.name],Q.gB,rfl,⟨TA,tc,af.own bB.1,af.own bB.2⟩,by rw[<-aE],by have:=bC.n;rw[aE] at this;simpa[aE] using this,rfl,rfl,rfl,rfl,rfl,rfl,rfl,K.ok,rfl,rfl,
     by have:=bC.out.p.row;rw[bw.out] at this;exact this,af.own aY.out.1,V.out.1,by rw[show f.gv=b.ws from V.out.2.1.symm];exact af.own aY.out.2.1,V.out.2.1,V.out.2.2,aY.out.2.2.ch af⟩
   have bD:m.eL=P7 (fI a.name) a.gB (.slice SG 1 sg) (.slice y a.ft.length z) (.slice n a.fs.length o) (.slice b.BA b.bs.length b.bc) (.slice b.WA b.ws.length b.wc) (eE b.sh) (.slice G f.inits.length H) (.slice I f.gJ.length J):=by rw[hm,<-bx];rfl
   have ct:Hid (j5 m.t f.gy=true):=eD (by rw[hm];exact K.right b V.1 V.2.1 V.2.2);have bE:=eD cs;have bF:Hid (eQ (((aj.setCell (eJ d 6) (.slice b.BA b.bs.length b.bc)).setCell (eJ d 7) (.slice b.WA b.ws.length b.wc)).setCell (eJ d 8) (eE b.sh)) d 174 m.eL.toArray):=eD (by rw[bD];exact cr);have ak:Hid (m.eL.length=15/\∀C∈m.eL,C.oneCell'=true):=eD (by rw[bD];exact⟨rfl,by simp[Value.oneCell']⟩);have bG:=eD (And.intro aA.re (And.intro aA.ch aA.lo));clear cl cm cn cp aA cq af cr cs hm bD U ck bB aY V bC;have cu:=eD (bF.fK (P:=prog) 174 _ underlying174 rfl (by rw[ak.1];kernel_rfl));obtain⟨cv,cw⟩:=bE.TB K.enc;have cx:=eD (Cq m f _ cv cw ct K.vq K.enc.ke);clear cv cw;go_wp2_with (refine eK rfl 174 (.tmp 6) rfl _ rfl (fV m.eL.toArray) cu ?_)
   generalize(((aj.setCell (eJ d 6) (.slice b.BA b.bs.length b.bc)).setCell (eJ d 7) (.slice b.WA b.ws.length b.wc)).setCell (eJ d 8) (eE b.sh))=c' at*;refine cx.mono ?_;rintro e cQ ⟨rfl,aB⟩;have cR:=eD ((aB.eH bF).fK (P:=prog) 174 _ underlying174 rfl (by rw[ak.1];kernel_rfl));have cy:=eD (aB.eH bG.1);have cS:=eD (bE.ch (CH.fg (B:=0) (L:=[]) (M:=[]) aB) (by simp) (by simp) (by simp) (by simp) (by simp) (by simp) (by simp));have cT:=eD (bG.2.1.ext aB);clear aB cu cx bE bF bG;go_wp2_with (first|(refine eK rfl 174 (.tmp 6) rfl _ rfl (fV m.eL.toArray) cR ?_)|(refine eG rfl 174 (.tmp 2) (.tmp 246) rfl (w.heap.size+1) rfl m.eL rfl cy ak.2 (by rw[ak.1];kernel_rfl) (by rw[ak.1];rfl) ?_))
   intro bH cz cA;have cB:=cz.fK (P:=prog) 174 _ underlying174 rfl (by rw[ak.1];kernel_rfl);have bI:CH w [174] [] cQ bH:=fi.mono (fi.grown cA) λk hk=>by simp only[fd] at hk;subst hk;exact⟨by omega,.inl ⟨_,_,_,cy,by decide⟩⟩
   have cC:=cS.ch bI (by decide) (by decide) (by decide) (by decide) (by decide) (by decide) (by decide);have X:Hid (my bH w m f/\j5 m.t f.gy=true/\eF w bH):=eD ⟨cC,ct,(cT.fk (bI.mono (by decide) (λ_ h=>h))).lP (eF.refl _) (fJ _)⟩;have cU:=eD cB;clear cz cA cB bI cC;go_wp
   exact iA (oY rfl rfl cU) rfl ⟨m,rfl,X⟩
