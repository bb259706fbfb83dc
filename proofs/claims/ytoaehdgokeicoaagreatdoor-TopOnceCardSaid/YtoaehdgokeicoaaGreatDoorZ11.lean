/- TopOnce: part 11 of the proof. -/
import Derived.Test.YtoaehdgokeicoaaGreatDoorZ09
set_option maxRecDepth 100000
set_option maxHeartbeats 30000000
set_option linter.all false
namespace Go.Proofs.YtoaehdgokeicoaaGreatDoor
open K9 Z9 Go.Proofs.Tryz
section
open Go.RowKit
theorem NJ:∀a:Fin 256,bits BinOp.or .u32 (a.val:Int) 0=(a.val:Int)/\bits BinOp.or .u32 (a.val:Int) 65280=(a.val:Int)+65280/\bits BinOp.or .u32 ((a.val:Int)+65280) 16711680=(a.val:Int)+16776960/\bits BinOp.or .u32 ((a.val:Int)+16776960) 4278190080=(a.val:Int)+4294967040:=by decide+kernel
theorem NK:∀a:Fin 256,128<=a.val->wrap32 ((a.val:Int)+4294967040)=(a.val:Int)- 256/\wrap64 ((a.val:Int)- 256)=(a.val:Int)- 256:=by decide+kernel
def CC(w:eI)(o a n:Int)(e:Ending)(w':eI):Prop:=∃g c,e=fH (ij #[fN g 1 c,eE 0])/\w'.ownsRow w 121 5 (fN g 1 c) 1 [eE o,eE a,eE 0,eE 0,eE n]/\eF w w'
theorem Bi:(prog.info? 121).map (λa=>(a.zero,a.size,a.bytes))=some (some (.agg #[.int .i64 0,.int .i64 0,.int .i64 0,.int .i64 0,.int .i64 0]),5,40):=by kernel_rfl
theorem yP(g i b:Nat)(ho:g<256)(ha:i<256)(m:b<256)(n o:Nat)(a:eI)(w:Rd a (some (eJ n 0)) [.int .u8 g,.int .u8 i,.int .u8 0,.int .u8 0,.int .u8 b,.int .u8 0,.int .u8 0,.int .u8 0])(hc:8<=o)(x:∀a,Calls prog 153 #[rk g i ((b:Int))] a λe p=>e=fH (eE 0)/\eF a p):
 Calls prog 285 #[fN n 8 o] a (CC a g i ((b:Int))):=by
 obtain⟨D,E,F,G,H⟩:=info_parts Bi;obtain⟨I,q1⟩:=NJ ⟨b,m⟩;simp only at I;clear q1;have r:=eD x;clear x;unfold rk at r;have c:∀l (y:l<8),a.cell? (eJ n (0+l))=([.int .u8 g,.int .u8 i,.int .u8 0,.int .u8 0,.int .u8 b,.int .u8 0,.int .u8 0,.int .u8 0]:fY)[l]?:=λl y=>by obtain⟨s,o',e,h⟩:=w l (by simpa using y);simp only[fd,ny,gP] at e;obtain⟨rfl,rfl⟩:=e;rw[h,gg]
 simp only[lH] at c;have J:=c 0 (by omega);have K:=oO (c 0 (by omega));have L:=oO (c 1 (by omega));have M:=oO (c 2 (by omega));have N:=oO (c 3 (by omega));have O:=oO (c 4 (by omega));have P:=oO (c 5 (by omega));have Q:=oO (c 6 (by omega));have R:=oO (c 7 (by omega));clear c J w;go_in;go_wp2;refine wp_loop_rounds 2 ?_;rw[rounds_succ];go_wp2;refine mY [0,1,2,3,4,5,6,7,8,9,10,11,12,13,14,15,16,17,18,19,20,21,22] [] ?_;repeat(go_big_quiet_step (fail))
 refine eO ?_;go_wp2;refine mD [0,1,2,3,4,5,6,7,8,9,10,11,12,13,14,15,16,17,18,19] [20,21] (λp=>∃d:EW a,p=d.w) (by kernel_rfl) (by kernel_rfl) (by decide) (by simp[gj];rfl) (by simp[gj];exact⟨rfl,rfl⟩) ⟨⟨_,(eF.drew a).trans (eF.drew _)⟩,rfl⟩ ?_;repeat(go_big_quiet_step (fail))
 refine eO ?_;clear K L M N O P Q R;go_wp2;refine⟨⟨⟨_,((eF.drew a).trans (eF.drew _)).trans (eF.alloc _ _)⟩,rfl⟩, ?_⟩;go_wp2_with fail
 refine(r _).mono ?_;rintro e f ⟨rfl,t⟩;have k:=t.eH (eQ.new a.drew.drew 121 #[eE g,eE i,eE 0,eE 0,eE ((b:Int))]);have z:=eD ((((eF.drew a).trans (eF.drew _)).trans (eF.alloc _ _)).trans t);have S:a.drew.drew.heap.size=a.heap.size:=rfl;rw[S] at k;clear t r;go_wp2;have d0:=λd:KW [a.heap.size] f=>d.cell (k.ce 0 (eE g)) (by simp);have d1:=λd:KW [a.heap.size] f=>d.cell (k.ce 1 (eE i)) (by simp);have d2:=λd:KW [a.heap.size] f=>d.cell (k.ce 2 (eE 0)) (by simp);have d3:=λd:KW [a.heap.size] f=>d.cell (k.ce 3 (eE 0)) (by simp);have d4:=λd:KW [a.heap.size] f=>d.cell (k.ce 4 (eE ((b:Int)))) (by simp);refine gU [a.heap.size] [0,1,4,5] [2,3,6,7] 3 ?_;repeat(go_big_quiet_step (fail))
 refine eO ?_;by_cases h8:o=8
 all_goals
  clear d0 d1 d2 d3 d4;refine gH ?_;go_wp2;have A:=k.lt;refine⟨KC.of (λs j=>by simp only[fm,gp,gq] at j;subst j;exact(eF.drew f).trans (eF.alloc _ _) |>.below.block _ A), ?_⟩;refine gH ?_;have T:=eD (z.trans ((eF.drew f).trans (eF.alloc f.drew (eN #[eE g,eE i,eE 0,eE 0,eE ((b:Int))] 121))));go_wp2_with (at_builtin;go_loud(refine fB rfl _ _ 252 rfl a 121 D _ 5 40 underlying252 E F G H rfl (by omega) (eW) 0 [] rfl (ji _ _ _ _) (some (eJ f 0)) 1 [eE g,eE i,eE 0,eE 0,eE ((b:Int))] 1 rfl rfl (by exact ip f.drew #[eE g,eE i,eE 0,eE 0,eE ((b:Int))] _) (by simp[Value.oneCell']) (by unfold maxLen;omega) (by omega) T.size ?_))
  intro v6 w6 u B _;have v:=(fi.grown B).ext ((eF.drew f).trans (eF.alloc _ _)) (λb m=>by cases m);have U:=eD (z.trans v);obtain⟨g6,c6,rfl,V,W,X,Y⟩:=jI u (by omega);have Z:=eD u;have C:=v.below.block _ A;clear u B v V W X Y;go_wp2;refine⟨KC.of (λs j=>by simp only[fm,gp,gq] at j;subst j;exact C), ?_⟩;refine gH ?_;go_wp2;refine⟨KC.of (λs j=>by simp only[fm,gp,gq] at j;subst j;exact C), ?_⟩;refine jm ?_;go_wp2;rw[rounds_succ];go_wp2;go_ret2
  exact⟨_,_,rfl,Z,U⟩
theorem NL(g i b:Nat)(ho:g<256)(ha:i<256)(m:b<256)(D:128<=b)(n o:Nat)(a:eI)(w:Rd a (some (eJ n 0)) [.int .u8 g,.int .u8 i,.int .u8 0,.int .u8 0,.int .u8 b,.int .u8 255,.int .u8 255,.int .u8 255])(hc:8<=o)(x:∀a,Calls prog 153 #[rk g i ((b:Int)- 256)] a λe p=>e=fH (eE 0)/\eF a p):
 Calls prog 285 #[fN n 8 o] a (CC a g i ((b:Int)- 256)):=by
 obtain⟨E,F,G,H,I⟩:=info_parts Bi;obtain⟨J,q1,K,L⟩:=NJ ⟨b,m⟩;obtain⟨M,N⟩:=NK ⟨b,m⟩ D;simp only at q1 K L M N;clear J;have r:=eD x;clear x;unfold rk at r;have c:∀l (y:l<8),a.cell? (eJ n (0+l))=([.int .u8 g,.int .u8 i,.int .u8 0,.int .u8 0,.int .u8 b,.int .u8 255,.int .u8 255,.int .u8 255]:fY)[l]?:=λl y=>by obtain⟨s,o',e,h⟩:=w l (by simpa using y);simp only[fd,ny,gP] at e;obtain⟨rfl,rfl⟩:=e;rw[h,gg]
 simp only[lH] at c;have O:=c 0 (by omega);have P:=oO (c 0 (by omega));have Q:=oO (c 1 (by omega));have R:=oO (c 2 (by omega));have S:=oO (c 3 (by omega));have T:=oO (c 4 (by omega));have U:=oO (c 5 (by omega));have V:=oO (c 6 (by omega));have W:=oO (c 7 (by omega));clear c O w;go_in;go_wp2;refine wp_loop_rounds 2 ?_;rw[rounds_succ];go_wp2;refine mY [0,1,2,3,4,5,6,7,8,9,10,11,12,13,14,15,16,17,18,19,20,21,22] [] ?_;repeat(go_big_quiet_step (fail))
 refine eO ?_;go_wp2;refine mD [0,1,2,3,4,5,6,7,8,9,10,11,12,13,14,15,16,17,18,19] [20,21] (λp=>∃d:EW a,p=d.w) (by kernel_rfl) (by kernel_rfl) (by decide) (by simp[gj];rfl) (by simp[gj];exact⟨rfl,rfl⟩) ⟨⟨_,(eF.drew a).trans (eF.drew _)⟩,rfl⟩ ?_;repeat(go_big_quiet_step (fail))
 refine eO ?_;clear P Q R S T U V W;go_wp2;refine⟨⟨⟨_,((eF.drew a).trans (eF.drew _)).trans (eF.alloc _ _)⟩,rfl⟩, ?_⟩;go_wp2_with fail
 refine(r _).mono ?_;rintro e f ⟨rfl,t⟩;have k:=t.eH (eQ.new a.drew.drew 121 #[eE g,eE i,eE 0,eE 0,eE ((b:Int)- 256)]);have z:=eD ((((eF.drew a).trans (eF.drew _)).trans (eF.alloc _ _)).trans t);have X:a.drew.drew.heap.size=a.heap.size:=rfl;rw[X] at k;clear t r;go_wp2;have d0:=λd:KW [a.heap.size] f=>d.cell (k.ce 0 (eE g)) (by simp);have d1:=λd:KW [a.heap.size] f=>d.cell (k.ce 1 (eE i)) (by simp);have d2:=λd:KW [a.heap.size] f=>d.cell (k.ce 2 (eE 0)) (by simp);have d3:=λd:KW [a.heap.size] f=>d.cell (k.ce 3 (eE 0)) (by simp);have d4:=λd:KW [a.heap.size] f=>d.cell (k.ce 4 (eE ((b:Int)- 256))) (by simp);refine gU [a.heap.size] [0,1,4,5] [2,3,6,7] 3 ?_;repeat(go_big_quiet_step (fail))
 refine eO ?_;by_cases h8:o=8
 all_goals
  clear d0 d1 d2 d3 d4;refine gH ?_;go_wp2;have A:=k.lt;refine⟨KC.of (λs j=>by simp only[fm,gp,gq] at j;subst j;exact(eF.drew f).trans (eF.alloc _ _) |>.below.block _ A), ?_⟩;refine gH ?_;have Y:=eD (z.trans ((eF.drew f).trans (eF.alloc f.drew (eN #[eE g,eE i,eE 0,eE 0,eE ((b:Int)- 256)] 121))));go_wp2_with (at_builtin;go_loud(refine fB rfl _ _ 252 rfl a 121 E _ 5 40 underlying252 F G H I rfl (by omega) (eW) 0 [] rfl (ji _ _ _ _) (some (eJ f 0)) 1 [eE g,eE i,eE 0,eE 0,eE ((b:Int)- 256)] 1 rfl rfl (by exact ip f.drew #[eE g,eE i,eE 0,eE 0,eE ((b:Int)- 256)] _) (by simp[Value.oneCell']) (by unfold maxLen;omega) (by omega) Y.size ?_))
  intro v6 w6 u B _;have v:=(fi.grown B).ext ((eF.drew f).trans (eF.alloc _ _)) (λb m=>by cases m);have Z:=eD (z.trans v);obtain⟨g6,c6,rfl,ad,ae,af,ag⟩:=jI u (by omega);have HO:=eD u;have C:=v.below.block _ A;clear u B v ad ae af ag;go_wp2;refine⟨KC.of (λs j=>by simp only[fm,gp,gq] at j;subst j;exact C), ?_⟩;refine gH ?_;go_wp2;refine⟨KC.of (λs j=>by simp only[fm,gp,gq] at j;subst j;exact C), ?_⟩;refine jm ?_;go_wp2;rw[rounds_succ];go_wp2;go_ret2
  exact⟨_,_,rfl,HO,Z⟩
theorem NM(g:Ins)(l:g.Ok)(c d:Nat)(b:eI)(f:Rd b (some (eJ c 0)) (jl g.B))(j:8<=d):Calls prog 285 #[fN c 8 d] b (CC b g.op g.a g.n):=by
 cases l with
 |M8 i h=>
  by_cases m:0<=i
  ·obtain⟨a,rfl⟩:∃a:Nat,i=a:=⟨i.toNat,by omega⟩;have k:a%256=a:=by omega
   refine yP 1 1 a (by omega) (by omega) (by omega) c d b ?_ j (λb=>vK a h b);have:(Ins.B ⟨1,1,(a:Int)⟩)=[1,1,0,0,UInt8.ofNat a,0,0,0]:=by simp[Ins.B,Sg]
   rw[this] at f;simpa[jl,k] using f
  ·obtain⟨a,n,o⟩:∃a:Nat,i=(a:Int)- 256/\a<256:=⟨(256+i).toNat,by omega,by omega⟩;subst n;have k:a%256=a:=by omega
   refine NL 1 1 a (by omega) (by omega) o (by omega) c d b ?_ j (λb=>vK _ h b);have:(Ins.B ⟨1,1,(a:Int)- 256⟩)=[1,1,0,0,UInt8.ofNat a,255,255,255]:=by
    have e:(256+((a:Int)- 256)).toNat=a:=by omega
    unfold Ins.B Sg;simp only;rw[fG m,e];rfl
   rw[this] at f;simpa[jl,k] using f
 |out=>exact yP 19 1 0 (by omega) (by omega) (by omega) c d b (by simpa[jl,Ins.B,Sg] using f) j (λb=>Ek b)
 |ret=>exact yP 18 0 0 (by omega) (by omega) (by omega) c d b (by simpa[jl,Ins.B,Sg] using f) j (λb=>El b)
section
def o0(w:eI)(c ev:eS)(e:Ending)(w':eI):Prop:=e=fH (ij #[c,ev])/\eF w w'
variable (q:Nat) (pc tp x sp:Int) (w:eI)
theorem yQ(B:Nat)(y:List Rg)(C:eS)(V:Nat)(z:Rg)(b:Ins)(l m n c o:Int)(J:j' w B q y C)(D:jK y V z pc 8 4)(hcut:z.cut pc 8=b.B)(s:b.Ok)(aE:0<pc)(W:(c==5)=false)(X:∀w E,j' w B q y C->eQ w E 460 (mV pc tp x sp q 0 0)->Calls prog 286 #[fw E,rk b.op b.a b.n,eE (pc+8)] w (uP w E (mV l tp m n q c o))):
 Calls prog 204 #[xe pc tp x sp,fw q] w (o0 w (xe l tp m n) (CB c o)):=by
 have HS:=eD J;have Y:=eD (λw (h:j' w B q y C)=>Jz B q y C pc V z w h D);have hB:(z.cut pc 8).length=8:=by rw[hcut];exact lV b
 have ar:=D.high;have au:=J.vq z (mp D.is);have aF:pc+8<=4294967296:=by omega
 rw[hcut] at Y;have HA:=eD X;have HI:=eD s;clear J D X hcut hB s ar au;have aG:(pc==0)=false:=by simp;omega
 unfold xe mA at*;have K:=((eQ.new w 106 #[eE pc,eE tp,eE 0,eE x,eE 0,eE 0,eE 0,eE 0,eE 0,eE 0,eE 0,eE 0,eE 0,eE 0,eE 0,eE 0,eE 0,eE sp]).alloc (eN m7 106)).alloc (eN j3 67);have Z:=eD (K.load (P:=prog) 106 0 [eE pc,eE tp,eE 0,eE x,eE 0,eE 0,eE 0,eE 0,eE 0,eE 0,eE 0,eE 0,eE 0,eE 0,eE 0,eE 0,eE 0,eE sp] rfl _ underlying106 rfl (by kernel_rfl));have kp:=K.ce 0 (eE pc);clear K;go_in;go_wp2_with (refine eK rfl 106 (.tmp 2) rfl _ rfl (fV #[eE pc,eE tp,eE 0,eE x,eE 0,eE 0,eE 0,eE 0,eE 0,eE 0,eE 0,eE 0,eE 0,eE 0,eE 0,eE 0,eE 0,eE sp]) ?_ ?_)
 ·exact Z
 clear Z kp;go_wp2_with fail
 have ad:eF w ((((w.alloc (eN #[eE pc,eE tp,eE 0,eE x,eE 0,eE 0,eE 0,eE 0,eE 0,eE 0,eE 0,eE 0,eE 0,eE 0,eE 0,eE 0,eE 0,eE sp] 106)).alloc (eN m7 106)).alloc (eN j3 67)).alloc (eN #[eE pc,eE tp,eE 0,eE x,eE 0,eE 0,eE 0,eE 0,eE 0,eE 0,eE 0,eE 0,eE 0,eE 0,eE 0,eE 0,eE 0,eE sp,fw q,eE 0,eE 0,eE 0,eE 0,eE 0] 460)):=((((eF.alloc _ _).trans (eF.alloc _ _)).trans (eF.alloc _ _)).trans (eF.alloc _ _));have k:=(((eQ.new w 106 #[eE pc,eE tp,eE 0,eE x,eE 0,eE 0,eE 0,eE 0,eE 0,eE 0,eE 0,eE 0,eE 0,eE 0,eE 0,eE 0,eE 0,eE sp]).alloc (eN m7 106)).alloc (eN j3 67)).alloc (eN #[eE pc,eE tp,eE 0,eE x,eE 0,eE 0,eE 0,eE 0,eE 0,eE 0,eE 0,eE 0,eE 0,eE 0,eE 0,eE 0,eE 0,eE sp,fw q,eE 0,eE 0,eE 0,eE 0,eE 0] 460);have f:=((eQ.new (w.alloc (eN #[eE pc,eE tp,eE 0,eE x,eE 0,eE 0,eE 0,eE 0,eE 0,eE 0,eE 0,eE 0,eE 0,eE 0,eE 0,eE 0,eE 0,eE sp] 106)) 106 m7).alloc (eN j3 67)).alloc (eN #[eE pc,eE tp,eE 0,eE x,eE 0,eE 0,eE 0,eE 0,eE 0,eE 0,eE 0,eE 0,eE 0,eE 0,eE 0,eE 0,eE 0,eE sp,fw q,eE 0,eE 0,eE 0,eE 0,eE 0] 460);have g:=(eQ.new ((w.alloc (eN #[eE pc,eE tp,eE 0,eE x,eE 0,eE 0,eE 0,eE 0,eE 0,eE 0,eE 0,eE 0,eE 0,eE 0,eE 0,eE 0,eE 0,eE sp] 106)).alloc (eN m7 106)) 67 j3).alloc (eN #[eE pc,eE tp,eE 0,eE x,eE 0,eE 0,eE 0,eE 0,eE 0,eE 0,eE 0,eE 0,eE 0,eE 0,eE 0,eE 0,eE 0,eE sp,fw q,eE 0,eE 0,eE 0,eE 0,eE 0] 460);have i:=eQ.new (((w.alloc (eN #[eE pc,eE tp,eE 0,eE x,eE 0,eE 0,eE 0,eE 0,eE 0,eE 0,eE 0,eE 0,eE 0,eE 0,eE 0,eE 0,eE 0,eE sp] 106)).alloc (eN m7 106)).alloc (eN j3 67)) 460 #[eE pc,eE tp,eE 0,eE x,eE 0,eE 0,eE 0,eE 0,eE 0,eE 0,eE 0,eE 0,eE 0,eE 0,eE 0,eE 0,eE 0,eE sp,fw q,eE 0,eE 0,eE 0,eE 0,eE 0];simp only[fM] at f g i;have ae:=eD ad;clear ad;generalize(((w.alloc (eN #[eE pc,eE tp,eE 0,eE x,eE 0,eE 0,eE 0,eE 0,eE 0,eE 0,eE 0,eE 0,eE 0,eE 0,eE 0,eE 0,eE 0,eE sp] 106)).alloc (eN m7 106)).alloc (eN j3 67)).alloc (eN #[eE pc,eE tp,eE 0,eE x,eE 0,eE 0,eE 0,eE 0,eE 0,eE 0,eE 0,eE 0,eE 0,eE 0,eE 0,eE 0,eE 0,eE sp,fw q,eE 0,eE 0,eE 0,eE 0,eE 0] 460)=w1 at*;have af:=eD (HS.ext ae);refine(Y w1 af).mono ?_;rintro e w2 ⟨gf,cf,rfl,F,t⟩;have av:=eD t;have k:=t.eH k;have f:=t.eH f;have g:=t.eH g;have i:=t.eH i;have ag:=lV b;rw[ag] at F;have ah:=eD F;have aw:8<=cf:=by
  obtain⟨_,_,e,_,_,L,_⟩:=jI F (by omega);injection e with _ _ e
  omega
 clear t F;rw[ag];go_wp2_with fail
 refine(vQ (w.heap.size+1+1+1) w2).mono ?_;rintro e d ⟨rfl,rfl⟩;go_wp2_with fail
 refine(NM b HI gf cf w2 (Rd.fC ah) aw).mono ?_;rintro e j ⟨p,cd,rfl,u,v⟩;have ai:=eD (av.trans v);have k:=v.eH k;have f:=v.eH f;have g:=v.eH g;have i:=v.eH i;have M:=u.cellAt 0 (by omega);have N:=u.cellAt 1 (by omega);have O:=u.cellAt 2 (by omega);have Q:=u.cellAt 3 (by omega);have R:=u.cellAt 4 (by omega);simp only[QP,Uo] at M N O Q R;clear v u ah;go_wp2_with fail
 refine(vQ (w.heap.size+1+1+1) j).mono ?_;rintro e d ⟨rfl,rfl⟩;go_wp2;have c0:=λa:KW [w.heap.size,p] j=>a.cell (k.ce 0 (eE pc)) (by simp);have c1:=λa:KW [w.heap.size,p] j=>a.cell M (by simp);have c2:=λa:KW [w.heap.size,p] j=>a.cell N (by simp);have c3:=λa:KW [w.heap.size,p] j=>a.cell O (by simp);have c4:=λa:KW [w.heap.size,p] j=>a.cell Q (by simp);have c5:=λa:KW [w.heap.size,p] j=>a.cell R (by simp);clear M N O Q R;refine gU [w.heap.size,p] [0,1,2,3,4,5,6] [7] 0 ?_;repeat(go_big_quiet_step (fail))
 refine eO ?_;clear c0 c1 c2 c3 c4 c5;refine jm ?_;have r:=eF.drew j;have k:=r.eH k;have f:=r.eH f;have g:=r.eH g;have i:=r.eH i;have ax:=eD ((ae.trans ai).trans r);have aj:=eD (HA j.drew (w.heap.size+1+1+1) (af.ext (ai.trans r)) i);unfold rk at aj;clear r;go_wp2_with fail
 refine aj.mono ?_;rintro e S ⟨rfl,A,G⟩;have ak:=fi.eH G f (by omega);have H:=fi.eH G g (by omega);have ay:=eD (fi.ext G ax (λc W=>by have:c=_:=W;omega));have e0:=A.ce 19 (eE c);clear G k f g i;go_wp2;have al:∀d,(∃a:KW [w.heap.size+1+1+1] S,d=a.w)->(loadVar 106 (eJ (w.heap.size+1+1+1) 0)).run prog d=.ok (fV #[eE l,eE tp,eE 0,eE m,eE 0,eE 0,eE 0,eE 0,eE 0,eE 0,eE 0,eE 0,eE 0,eE 0,eE 0,eE 0,eE 0,eE n]) d:=λd ⟨a,T⟩=>by subst T;exact jo a.w _ 0 106 [eE l,eE tp,eE 0,eE m,eE 0,eE 0,eE 0,eE 0,eE 0,eE 0,eE 0,eE 0,eE 0,eE 0,eE 0,eE 0,eE 0,eE n] _ (λb s=>a.cell (A.cell _ (Cn rfl b s)) (by simp)) underlying106 rfl (by kernel_rfl)
 have am:∀d,(∃a:KW [w.heap.size+1+1+1] S,d=a.w)->(loadVar 67 (eJ (w.heap.size+1+1+1) 19)).run prog d=.ok (fV #[eE c,eE o,eE 0,eE 0,eE 0]) d:=λd ⟨a,T⟩=>by subst T;exact jo a.w _ 19 67 [eE c,eE o,eE 0,eE 0,eE 0] _ (λb s=>a.cell (A.cell _ (Cn rfl b s)) (by simp)) underlying67 rfl (by kernel_rfl)
 have an:=eD al;have ao:=eD am;clear al am;refine gU [w.heap.size+1+1+1] [0,1,2,3,4,5,6,7] [8,9] 1 ?_;iterate 3 (go_big_quiet_step (fail))
 refine fR rfl 106 (.tmp 68) rfl _ _ rfl an (by simp[Act.put];rfl) ?_;iterate 3 (go_big_quiet_step (fail))
 refine fR rfl 67 (.tmp 72) rfl _ _ rfl ao (by simp[Act.put];rfl) ?_;refine eO ?_;clear an ao;have az:=A.lt;refine gH ?_;go_wp2_with (go_loud(refine gI rfl 106 (.tmp 4) (.tmp 69) rfl (w.heap.size+1) 0 rfl (fV #[eE l,eE tp,eE 0,eE m,eE 0,eE 0,eE 0,eE 0,eE 0,eE 0,eE 0,eE 0,eE 0,eE 0,eE 0,eE 0,eE 0,eE n]) rfl [eE l,eE tp,eE 0,eE m,eE 0,eE 0,eE 0,eE 0,eE 0,eE 0,eE 0,eE 0,eE 0,eE 0,eE 0,eE 0,eE 0,eE n] rfl ak.drew (by simp[Value.oneCell']) (by kernel_rfl) (by simp) ?_))
 intro w6 b6 I;have ap:=(fi.grown I).ext (ay.trans (eF.drew _));have aA:=eD ap;have H:=(fi.grown I).eH H.drew;have aq:w6.heap[w.heap.size+1+1+1]? =S.heap[w.heap.size+1+1+1]?:=I.block _ az (by simp only[nY,fd];omega);clear ap I A e0;go_wp2;refine⟨KC.of (λE hb=>by simp only[fm,gp,gq] at hb;subst hb;exact aq), ?_⟩;refine jm ?_;go_wp2_with (go_loud(refine gI rfl 67 (.tmp 5) (.tmp 73) rfl (w.heap.size+1+1) 0 rfl (fV #[eE c,eE o,eE 0,eE 0,eE 0]) rfl [eE c,eE o,eE 0,eE 0,eE 0] rfl H (by simp[Value.oneCell']) (by kernel_rfl) (by simp) ?_))
 intro w7 b7 U;have aB:=eD ((fi.grown U).ext aA);have L:=((fi.grown U).eH b6).load (P:=prog) 106 0 [eE l,eE tp,eE 0,eE m,eE 0,eE 0,eE 0,eE 0,eE 0,eE 0,eE 0,eE 0,eE 0,eE 0,eE 0,eE 0,eE 0,eE n] rfl _ underlying106 rfl (by kernel_rfl);have h7:=b7.load (P:=prog) 67 0 [eE c,eE o,eE 0,eE 0,eE 0] rfl _ underlying67 rfl (by kernel_rfl);have aC:=eD L;have aD:=eD h7;clear L h7 b6 b7 U ak H aq;go_wp2;exact iA (yI rfl rfl rfl aC aD) rfl ⟨rfl,aB⟩
theorem Kr(d:Nat)(b:List Rg)(f:eS)(g:Nat)(c:Rg)(a:Int)(i: -100<=a/\a<=100)(j:j' w d q b f)(k:jK b g c pc 8 4)(hcut:c.cut pc 8=Ins.B ⟨1,1,a⟩)(l:0<pc):
 Calls prog 204 #[xe pc tp x sp,fw q] w (o0 w (xe (pc+8) tp a sp) (CB 0 0)):=
 yQ q pc tp x sp w d b f g c ⟨1,1,a⟩ (pc+8) a sp 0 0 j k hcut (.M8 a i) l rfl (λw m _ n=>NI m q pc tp x sp (pc+8) w a n)
theorem NN(c:Nat)(a:List Rg)(d:eS)(f:Nat)(b:Rg)(g:j' w c q a d)(i:jK a f b pc 8 4)(hcut:b.cut pc 8=Ins.B ⟨19,1,0⟩)(j:0<pc):
 Calls prog 204 #[xe pc tp x sp,fw q] w (o0 w (xe (pc+8) tp x sp) (CB 2 x)):=
 yQ q pc tp x sp w c a d f b ⟨19,1,0⟩ (pc+8) x sp 2 x g i hcut .out j rfl (λw k _ l=>Rb k q pc tp x sp (pc+8) w l)
theorem step_ret(b:Nat)(a:List Rg)(c:eS)(g i:Nat)(d f:Rg)(j:j' w b q a c)(k:jK a g d pc 8 4)(hcut:d.cut pc 8=Ins.B ⟨18,0,0⟩)(l:0<pc)(m:jK a i f sp 8 1)(n:f.cut sp 8=z8):
 Calls prog 204 #[xe pc tp x sp,fw q] w (o0 w (xe 0 tp x (sp+8)) (CB 0 0)):=
 yQ q pc tp x sp w b a c g d ⟨18,0,0⟩ 0 x (sp+8) 0 0 j k hcut .ret l rfl (λw o h p=>Rc o q pc tp x sp (pc+8) w b a c i f p h m n)
theorem step_end(tp x sp:Int):Calls prog 204 #[xe 0 tp x sp,fw q] w (o0 w (xe 0 tp x sp) (CB 1 0)):=by
 have b:=((eQ.new w 106 #[eE 0,eE tp,eE 0,eE x,eE 0,eE 0,eE 0,eE 0,eE 0,eE 0,eE 0,eE 0,eE 0,eE 0,eE 0,eE 0,eE 0,eE sp]).alloc (eN m7 106)).alloc (eN j3 67);have a:=(eQ.new (w.alloc (eN #[eE 0,eE tp,eE 0,eE x,eE 0,eE 0,eE 0,eE 0,eE 0,eE 0,eE 0,eE 0,eE 0,eE 0,eE 0,eE 0,eE 0,eE sp] 106)) 106 m7).alloc (eN j3 67);have c:=eQ.new ((w.alloc (eN #[eE 0,eE tp,eE 0,eE x,eE 0,eE 0,eE 0,eE 0,eE 0,eE 0,eE 0,eE 0,eE 0,eE 0,eE 0,eE 0,eE 0,eE sp] 106)).alloc (eN m7 106)) 67 j3;simp only[fM] at a c;have g:=eD (b.load (P:=prog) 106 0 [eE 0,eE tp,eE 0,eE x,eE 0,eE 0,eE 0,eE 0,eE 0,eE 0,eE 0,eE 0,eE 0,eE 0,eE 0,eE 0,eE 0,eE sp] rfl _ underlying106 rfl (by kernel_rfl));have n:=b.ce 0 (eE 0);have i:Hid (eF w (((w.alloc (eN #[eE 0,eE tp,eE 0,eE x,eE 0,eE 0,eE 0,eE 0,eE 0,eE 0,eE 0,eE 0,eE 0,eE 0,eE 0,eE 0,eE 0,eE sp] 106)).alloc (eN m7 106)).alloc (eN j3 67))):=eD (((eF.alloc _ _).trans (eF.alloc _ _)).trans (eF.alloc _ _));clear b;unfold xe mA;go_in;go_wp2_with (first|(refine eK rfl 106 (.tmp 2) rfl _ rfl (.agg #[.int .i64 0,.int .i64 tp,.int .i64 0,.int .i64 x,.int .i64 0,.int .i64 0,.int .i64 0,.int .i64 0,.int .i64 0,.int .i64 0,.int .i64 0,.int .i64 0,.int .i64 0,.int .i64 0,.int .i64 0,.int .i64 0,.int .i64 0,.int .i64 sp]) ?_ ?_)|(refine gI rfl 106 (.tmp 4) (.tmp 13) rfl (w.heap.size+1) 0 rfl (.agg #[.int .i64 0,.int .i64 tp,.int .i64 0,.int .i64 x,.int .i64 0,.int .i64 0,.int .i64 0,.int .i64 0,.int .i64 0,.int .i64 0,.int .i64 0,.int .i64 0,.int .i64 0,.int .i64 0,.int .i64 0,.int .i64 0,.int .i64 0,.int .i64 sp]) rfl [.int .i64 0,.int .i64 tp,.int .i64 0,.int .i64 x,.int .i64 0,.int .i64 0,.int .i64 0,.int .i64 0,.int .i64 0,.int .i64 0,.int .i64 0,.int .i64 0,.int .i64 0,.int .i64 0,.int .i64 0,.int .i64 0,.int .i64 0,.int .i64 sp] rfl a (by simp[Value.oneCell']) (by kernel_rfl) (by simp) ?_))
 ·exact g
 clear g n;go_wp2_with (go_loud(refine gI rfl 106 (.tmp 4) (.tmp 13) rfl (w.heap.size+1) 0 rfl (fV #[eE 0,eE tp,eE 0,eE x,eE 0,eE 0,eE 0,eE 0,eE 0,eE 0,eE 0,eE 0,eE 0,eE 0,eE 0,eE 0,eE 0,eE sp]) rfl [eE 0,eE tp,eE 0,eE x,eE 0,eE 0,eE 0,eE 0,eE 0,eE 0,eE 0,eE 0,eE 0,eE 0,eE 0,eE 0,eE 0,eE sp] rfl a (by simp[Value.oneCell']) (by kernel_rfl) (by simp) ?_))
 intro s j d;have k:=eD ((fi.grown d).ext i);have l:=(fi.grown d).eH c;clear d a c i;go_wp2_with (go_loud(refine gI rfl 67 (.tmp 5) (.tmp 14) rfl (w.heap.size+1+1) 0 rfl (fV Qf) rfl [eE 1,eE 0,eE 0,eE 0,eE 0] rfl l (by simp[Value.oneCell']) (by kernel_rfl) (by simp) ?_))
 intro t m f;have o:=eD ((fi.grown f).ext k);have p:=eD (((fi.grown f).eH j).load (P:=prog) 106 0 [eE 0,eE tp,eE 0,eE x,eE 0,eE 0,eE 0,eE 0,eE 0,eE 0,eE 0,eE 0,eE 0,eE 0,eE 0,eE 0,eE 0,eE sp] rfl _ underlying106 rfl (by kernel_rfl));have r:=eD (m.load (P:=prog) 67 0 [eE 1,eE 0,eE 0,eE 0,eE 0] rfl _ underlying67 rfl (by kernel_rfl));clear j m f l k;go_wp2;exact iA (yI rfl rfl rfl p r) rfl ⟨rfl,o⟩
end
def xr(w:eI)(c ev:eS)(n:Int)(e:Ending)(w':eI):Prop:=e=fH (ij #[c,ev,eE n])/\eF w w'
theorem II(q:Nat)(g i j:fY)(k l D m:Int)(b:eI)(E:g.length=18)(F:i.length=18)(G:j.length=18)(V:∀d∈i,d.oneCell'=true)(W:∀d∈j,d.oneCell'=true)(hk:k=1/\D=1\/k=2/\D=2)(aM:2<=m)(X:∀a,eF b a->Calls prog 204 #[fV g.toArray,fw q] a (o0 a (fV i.toArray) (CB 0 0)))(Y:∀a,eF b a->Calls prog 204 #[fV i.toArray,fw q] a (o0 a (fV j.toArray) (CB k l))):
 Calls prog 127 #[fV g.toArray,fw q,eE m] b (xr b (fV j.toArray) (CB k l) D):=by
 have Z:(prog.info? 106).map (·.size)=some g.length:=by rw[E];kernel_rfl
 have i1:(prog.info? 106).map (·.size)=some i.length:=by rw[F];kernel_rfl
 have i2:(prog.info? 106).map (·.size)=some j.length:=by rw[G];kernel_rfl
 have I0:=eD Z;have w:=eD i1;have x:=eD i2;have O1:=eD V;have O2:=eD W;have H1:=eD X;have H2:=eD Y;have L0:=eD E;have L1:=eD F;have L2:=eD G;have H:=((eQ.new b 106 g.toArray).alloc (eN m7 106)).alloc (eN j3 67);have I:=(eQ.new (b.alloc (eN g.toArray 106)) 106 m7).alloc (eN j3 67);have J:=eQ.new ((b.alloc (eN g.toArray 106)).alloc (eN m7 106)) 67 j3;simp only[fM] at I J;have ad:eF b (((b.alloc (eN g.toArray 106)).alloc (eN m7 106)).alloc (eN j3 67)):=((eF.alloc _ _).trans (eF.alloc _ _)).trans (eF.alloc _ _);clear Z i1 i2 V W X Y E F G;have aN:(0:Int)<m:=by omega
 have aO:(1:Int)<m:=by omega
 have aP:max 0 m=m:=by omega
 unfold CB at*;go_in;go_wp2;generalize((b.alloc (eN g.toArray 106)).alloc (eN m7 106)).alloc (eN j3 67)=wA at*;have ae:=eD ad;have HL:=eD (H.fK (P:=prog) 106 _ underlying106 rfl I0.out);have au:=eD H;have av:=eD I;have aw:=eD J;clear ad H I J;refine wp_loop_rounds 2 ?_;rw[rounds_succ];go_wp2_with (refine eK rfl 106 (.tmp 3) rfl _ rfl (fV g.toArray) ?_ ?_)
 ·exact HL
 go_wp2_with fail
 refine(H1 wA ae).mono ?_;rintro e n ⟨rfl,K⟩;have r:eF wA ((n.alloc (eN m7 106)).alloc (eN j3 67)):=(K.trans (eF.alloc _ _)).trans (eF.alloc _ _);have s:=(eQ.new n 106 m7).alloc (eN j3 67);have f:=eQ.new (n.alloc (eN m7 106)) 67 j3;simp only[fM] at f;have ax:=K.size;go_wp2_with (refine eG rfl 106 (.tmp 10) (.tmp 21) rfl n rfl i rfl s O1.out w.out (by rw[L1.out];rfl) ?_)
 intro w3 y L;have f:=(fi.grown L).eH f;have af:=(fi.grown L).ext r;clear L s r K;go_wp2_with (refine eG rfl 67 (.tmp 11) (.tmp 22) rfl (n.heap.size+1) rfl [eE 0,eE 0,eE 0,eE 0,eE 0] rfl f (by simp[Value.oneCell']) (by kernel_rfl) rfl ?_)
 intro w4 b4 M;have y:=(fi.grown M).eH y;have N:=(fi.grown M).ext af;have O:=eD N;have Q:=b4.ce 0 (eE 0);have ag:=eD (y.fK (P:=prog) 106 _ underlying106 rfl w.out);have ah:=N.eH au.out;clear M f af N b4 y ax;generalize n.heap.size=g1 at*;go_wp2_with (first|(refine eK rfl 106 (.tmp 10) rfl _ rfl (fV i.toArray) ?_ ?_)|(refine eG rfl 106 (.tmp 3) (.tmp 39) rfl b rfl i rfl ah O1.out w.out (by rw[L1.out];simpa using L0.out.symm) ?_))
 ·exact ag
 clear Q;intro w5 b5 z;have ai:=eD ((fi.grown z).ext (ae.trans O));have ay:=eD ((fi.grown z).eH (O.eH av.out));have aj:=eD ((fi.grown z).eH (O.eH aw.out));have ak:=eD (b5.fK (P:=prog) 106 _ underlying106 rfl w.out);clear z ah b5;go_wp2;rw[rounds_succ];go_wp2_with (refine eK rfl 106 (.tmp 3) rfl _ rfl (fV i.toArray) ?_ ?_)
 ·exact ak
 go_wp2_with fail
 refine(H2 w5 ai).mono ?_;rintro e o ⟨rfl,A⟩;have r:eF w5 ((o.alloc (eN m7 106)).alloc (eN j3 67)):=(A.trans (eF.alloc _ _)).trans (eF.alloc _ _);have s:=(eQ.new o 106 m7).alloc (eN j3 67);have f:=eQ.new (o.alloc (eN m7 106)) 67 j3;simp only[fM] at f;have aQ:=nX aj.out.lt A.size;have az:=A.size;go_wp2_with (refine eG rfl 106 (.tmp 10) (.tmp 21) rfl o rfl j rfl s O2.out x.out (by rw[L2.out];rfl) ?_)
 intro w7 t R;have f:=(fi.grown R).eH f;have al:=(fi.grown R).ext r;clear R s r A;go_wp2_with (refine eG rfl 67 (.tmp 11) (.tmp 22) rfl (o.heap.size+1) rfl [eE k,eE l,eE 0,eE 0,eE 0] rfl f (by simp[Value.oneCell']) (by kernel_rfl) rfl ?_)
 intro S B T;have t:=(fi.grown T).eH t;have C:=(fi.grown T).ext al;have aA:=eD (ai.trans C);have aB:=eD (C.eH ay.out);have aC:=eD (C.eH aj.out);have Q:=B.ce 0 (eE k);have B7:=eD t;have B8:=eD B;have aD:=t.lt;have aE:=B.lt;clear T f al C t B HL ag ak az;generalize o.heap.size=c at*;have am:Hid (∀a,(∃d:KW [c,c+1] S,a=d.w)->(loadVar 106 (eJ c 0)).run prog a=.ok (fV j.toArray) a):=eD (λa ⟨d,U⟩=>by subst U;exact(d.eH B7.out (by simp)).fK (P:=prog) 106 _ underlying106 rfl x.out)
 have an:Hid (∀a,(∃d:KW [c,c+1] S,a=d.w)->(loadVar 67 (eJ (c+1) 0)).run prog a=.ok (fV #[eE k,eE l,eE 0,eE 0,eE 0]) a):=eD (λa ⟨d,U⟩=>by subst U;exact(d.eH B8.out (by simp)).load (P:=prog) 67 0 [eE k,eE l,eE 0,eE 0,eE 0] rfl _ underlying67 rfl (by kernel_rfl))
 rcases hk with⟨rfl,rfl⟩|⟨rfl,rfl⟩;all_goals
  go_wp2;clear Q;refine gU [c,c+1] [0,1,2] [3,4,5] 2 ?_;refine fR rfl 106 (.tmp 10) rfl _ _ rfl am (by simp[Act.put];rfl) ?_;refine fR rfl 67 (.tmp 11) rfl _ _ rfl an (by simp[Act.put];rfl) ?_;repeat(go_big_quiet_step (fail))
  refine eO ?_;clear am an;refine gH ?_;go_wp2_with (refine eG rfl 106 (.tmp 6) (.tmp 36) rfl (b.heap.size+1) rfl j rfl aB.out.drew O2.out x.out (by rw[L2.out];rfl) ?_)
  intro w9 b9 p;have aF:=eD ((fi.grown p).ext (aA.trans (eF.drew _)));have ao:=(fi.grown p).eH aC.out.drew;have ap:=p.block c aD (by simp only[nY,fd];omega);have aq:=p.block (c+1) aE (by simp only[nY,fd];omega);have aR:S.heap.size<=w9.heap.size:=p.size;clear p;go_wp2;refine⟨KC.of (λaG u=>by simp only[fm,gp,gq] at u;rcases u with rfl|rfl;exact ap;exact aq), ?_⟩;refine gH ?_;go_wp2_with (refine eG rfl 67 (.tmp 7) (.tmp 37) rfl (b.heap.size+1+1) rfl [eE _,eE l,eE 0,eE 0,eE 0] rfl ao (by simp[Value.oneCell']) (by kernel_rfl) rfl ?_)
  intro aS ar v;have aH:=eD ((fi.grown v).ext aF);have aI:=eD (((fi.grown v).eH b9).fK (P:=prog) 106 _ underlying106 rfl x.out);have aJ:=eD (ar.fK (P:=prog) 67 _ underlying67 rfl (by kernel_rfl));have aK:=(v.block c (by omega) (by simp only[nY,fd];omega)).trans ap;have aL:=(v.block (c+1) (by omega) (by simp only[nY,fd];omega)).trans aq;clear v b9 ar ao;go_wp2;refine⟨KC.of (λaG u=>by simp only[fm,gp,gq] at u;rcases u with rfl|rfl;exact aK;exact aL), ?_⟩;refine jm ?_;go_wp2;exact iA (Eo rfl rfl rfl aI aJ) rfl ⟨rfl,aH⟩
end
section
variable{w v u W:eI}{n k m i j p b c d g B G:Nat}{x y z:eS}{D E F:Int}{A C H:fE}{l:fY}{r s t:fe}{f:ik}{a:Act}{kJ:kx}
section
open Go.RowKit
theorem eQ.ne{a b:Nat}{u:ik}{c:kx}(h:eQ w a f kJ)(k:eQ w b u c)(d:f≠u):a≠b:=λe=>by
 subst e;unfold eQ at h k;rw[h] at k;injection k with k
 injection k with _ k
 exact d k
theorem jX{e:ik}{size:Nat}(h:w.ownsRow n e size x k l){a:Nat}{b:ik}{f:kx}(g:eQ w a b f)(i:e≠b):some a≠x.ownBlock:=λq=>by
 obtain⟨c,d,r,j⟩:∃c d,x=fN a k d/\eQ w a e c:=by
  rcases h.2 with⟨rfl,_⟩|⟨s,m,o,rfl,_,p,_⟩
  ·cases q
  ·simp only[Value.ownBlock,fd] at q;subst q;exact⟨o,m,rfl,p⟩
 exact j.ne g i rfl
theorem Ks(c d b:Nat)(a:eI)(h:a.cell? (eJ b 0)=some (eE 1)):Calls prog 129 #[fw c,fw d,fw b] a λe f=>e=fH (fz false)/\a=f:=by go_in;go_wp2;go_ret;exact⟨rfl,rfl⟩
def Bs(w v:eI)(l:List (Nat×ik×kx)):Prop:=eF w v/\∀x∈l,eQ v x.1 x.2.1 x.2.2/\w.heap.size<=x.1
theorem Bs.nil{w v:eI}(h:eF w v):Bs w v []:=⟨h,λb a=>by cases a⟩
theorem Bs.to{v:eI}{l:List (Nat×ik×kx)}(h:Bs w v l)(a:eF v u):Bs w u l:=⟨h.1.trans a,λb c=>⟨a.eH (h.2 b c).1,(h.2 b c).2⟩⟩
theorem Bs.al{v:eI}{l:List (Nat×ik×kx)}(h:Bs w v l)(a:kx)(b:ik):Bs w (v.alloc (eN a b)) ((v.heap.size,b,a)::l):=⟨h.1.trans (eF.alloc _ _),λc hm=>by
 rcases fm.1 hm with rfl|hm
 ·exact⟨eQ.new v b a,h.1.size⟩
 ·exact⟨(eF.alloc _ _).eH (h.2 c hm).1,(h.2 c hm).2⟩⟩
theorem Bs.sw{a b:Nat×ik×kx}(h:Bs w v [a,b]):Bs w v [b,a]:=⟨h.1,λd c=>h.2 d (by simp only[fm,gp,gq] at c ⊢;exact c.symm)⟩
def uQ(w:eI)(C:fY)(id n:Int)(e:Ending)(w':eI):Prop:=∃g c,e=.returned (.tuple #[.agg (C++[Value.int .i64 id]).toArray,.slice (some ⟨g,0,none⟩) 1 c,CB 1 0,.int .i64 3])/\w'.ownsRow w.heap.size 3 1 (.slice (some ⟨g,0,none⟩) 1 c) 1 [.int .i64 n]/\eF w w'
theorem NO(aj q:Nat)(r j o:fY)(id F O:Int)(b:eI)(l0:r.length=18)(l1:j.length=18)(l2:o.length=18)(o1:∀a∈j,a.oneCell'=true)(o2:∀a∈o,a.oneCell'=true)(aS:2<=O/\O<=10000)(hp:b.cell? ⟨aj,0,none⟩=some (.pointer (some ⟨q,0,none⟩)))(h1:∀c,eF b c->Calls prog 127 #[.agg r.toArray,.pointer (some ⟨q,0,none⟩),.int .i64 O] c (xr c (.agg j.toArray) (CB 2 F) 2))(h2:∀c,eF b c->Calls prog 127 #[.agg j.toArray,.pointer (some ⟨q,0,none⟩),.int .i64 (O- 2)] c (xr c (.agg o.toArray) (CB 1 0) 1)):
 Calls prog 70 #[.pointer (some ⟨aj,0,none⟩),.agg (r++[Value.int .i64 id]).toArray,.int .i64 O] b (uQ b o id F):=by
 have I0:Hid ((prog.info? 106).map (·.size)=some r.length):=eD (by rw[l0];kernel_rfl);have I1:Hid ((prog.info? 106).map (·.size)=some j.length):=eD (by rw[l1];kernel_rfl);have I2:Hid ((prog.info? 106).map (·.size)=some o.length):=eD (by rw[l2];kernel_rfl);have ak:Hid ((prog.info? 108).map (·.size)=some (o++[Value.int .i64 id]).length):=eD (by rw[fT,l2];kernel_rfl);have aD:Hid (∀a∈o++[Value.int .i64 id],a.oneCell'=true):=eD (λa w=>by
  rcases gu.1 w with h|h
  ·exact o2 a h
  ·simp only[fm,gp,gq] at h;subst h;rfl)
 have O1:=eD o1;have O2:=eD o2;have H1:=eD h1;have H2:=eD h2;have L0:=eD l0;have Q:=eD l1;have R:=eD l2;have HP:=eD hp;have T:=((eQ.new b 108 (r++[Value.int .i64 id]).toArray).alloc (.cells #[.int .i64 0,.int .i64 0,.int .i64 0,.int .i64 0,.int .i64 0,.int .i64 0,.int .i64 0,.int .i64 0,.int .i64 0,.int .i64 0,.int .i64 0,.int .i64 0,.int .i64 0,.int .i64 0,.int .i64 0,.int .i64 0,.int .i64 0,.int .i64 0,.int .i64 0] 108)).alloc (.cells #[.int .i64 0,.int .i64 0,.int .i64 0,.int .i64 0,.int .i64 0] 67);have L:=(eQ.new (b.alloc (.cells (r++[Value.int .i64 id]).toArray 108)) 108 #[.int .i64 0,.int .i64 0,.int .i64 0,.int .i64 0,.int .i64 0,.int .i64 0,.int .i64 0,.int .i64 0,.int .i64 0,.int .i64 0,.int .i64 0,.int .i64 0,.int .i64 0,.int .i64 0,.int .i64 0,.int .i64 0,.int .i64 0,.int .i64 0,.int .i64 0]).alloc (.cells #[.int .i64 0,.int .i64 0,.int .i64 0,.int .i64 0,.int .i64 0] 67);have G:=eQ.new ((b.alloc (.cells (r++[Value.int .i64 id]).toArray 108)).alloc (.cells #[.int .i64 0,.int .i64 0,.int .i64 0,.int .i64 0,.int .i64 0,.int .i64 0,.int .i64 0,.int .i64 0,.int .i64 0,.int .i64 0,.int .i64 0,.int .i64 0,.int .i64 0,.int .i64 0,.int .i64 0,.int .i64 0,.int .i64 0,.int .i64 0,.int .i64 0] 108)) 67 #[.int .i64 0,.int .i64 0,.int .i64 0,.int .i64 0,.int .i64 0];simp only[fM] at L G;have au:eF b (((b.alloc (.cells (r++[Value.int .i64 id]).toArray 108)).alloc (.cells #[.int .i64 0,.int .i64 0,.int .i64 0,.int .i64 0,.int .i64 0,.int .i64 0,.int .i64 0,.int .i64 0,.int .i64 0,.int .i64 0,.int .i64 0,.int .i64 0,.int .i64 0,.int .i64 0,.int .i64 0,.int .i64 0,.int .i64 0,.int .i64 0,.int .i64 0] 108)).alloc (.cells #[.int .i64 0,.int .i64 0,.int .i64 0,.int .i64 0,.int .i64 0] 67)):=((eF.alloc _ _).trans (eF.alloc _ _)).trans (eF.alloc _ _);clear o1 o2 h1 h2 l0 l1 l2 hp;unfold xr CB at H1 H2;go_in;go_wp2;generalize((b.alloc (.cells (r++[Value.int .i64 id]).toArray 108)).alloc (.cells #[.int .i64 0,.int .i64 0,.int .i64 0,.int .i64 0,.int .i64 0,.int .i64 0,.int .i64 0,.int .i64 0,.int .i64 0,.int .i64 0,.int .i64 0,.int .i64 0,.int .i64 0,.int .i64 0,.int .i64 0,.int .i64 0,.int .i64 0,.int .i64 0,.int .i64 0] 108)).alloc (.cells #[.int .i64 0,.int .i64 0,.int .i64 0,.int .i64 0,.int .i64 0] 67)=wA at*;have x:=eD au;have d:=eD T;have y:=eD L;have D:=eD G;clear au T L G;go_loopw [10,11] (λav ag wr=>∃ah:fY,(r=ah/\av=.slice none 0 0/\ag=.int .i64 0\/j=ah/\ag=.int .i64 2/\wr.ownsRow b.heap.size 3 1 av 1 [.int .i64 F])/\eQ wr b.heap.size 108 (ah++[Value.int .i64 id]).toArray/\eQ wr (b.heap.size+1) 108 #[.int .i64 0,.int .i64 0,.int .i64 0,.int .i64 0,.int .i64 0,.int .i64 0,.int .i64 0,.int .i64 0,.int .i64 0,.int .i64 0,.int .i64 0,.int .i64 0,.int .i64 0,.int .i64 0,.int .i64 0,.int .i64 0,.int .i64 0,.int .i64 0,.int .i64 0]/\eQ wr (b.heap.size+1+1) 67 #[.int .i64 0,.int .i64 0,.int .i64 0,.int .i64 0,.int .i64 0]/\eF b wr) (λ_ ag _=>2- (intOf ag).toNat)
 case atStart=>exact⟨r,.inl ⟨rfl,rfl,rfl⟩,d.out,y.out,D.out,x⟩
 case round=>
  clear d y D x;obtain⟨ah,aE,T,L,G,hx⟩:=hrel;have x:=eD hx;have U:=eD T;have aw:=eD L;have ax:=eD G;have aT:=G.lt;clear hx T L G;rcases aE with⟨rfl,rfl,rfl⟩|⟨rfl,rfl,ho⟩
  ·have al:=eD H1.out;have V:Hid (∀c,(∃a:EW wr,c=a.w)->(loadVar 106 (eJ b 0)).run prog c=.ok (fV r.toArray) c):=eD (λc ⟨a,w⟩=>by subst w;exact(a.2.eH U.out).load (P:=prog) 106 0 r (by simp) _ underlying106 rfl I0.out);have cp:=oO (x.cell HP);go_wp2;refine jA [0,1,2,3,4,5,6,7,8] [14,15] (.jG (.e [9] (.q [10,11,12,13] (.jG (.e [14] (.e [15] (.e [16] (.e [17] (.q [18] .done))))) (.e [15] (.e [14] (.e [16] (.e [17] (.q [18] .done)))))))) (.jG (.e [14] (.jG (.e [9] (.q [10,11,12,13] (.e [15] (.e [16] (.e [17] (.q [18] .done)))))) (.e [15] (.e [9] (.q [10,11,12,13] (.e [16] (.e [17] (.q [18] .done)))))))) (.e [15] (.jG (.e [9] (.q [10,11,12,13] (.e [14] (.e [16] (.e [17] (.q [18] .done)))))) (.e [14] (.e [9] (.q [10,11,12,13] (.e [16] (.e [17] (.q [18] .done)))))))))) (λc=>∃a:EW wr,c=a.w) (by kernel_rfl) (by kernel_rfl) (by simp[gj];first|rfl|exact⟨rfl,rfl⟩) ⟨⟨World.drew wr,eF.drew wr⟩,rfl⟩ ?_;go_big_quiet_step (fail)
   refine fR rfl 106 (.tmp 16) rfl _ _ rfl V (by simp[Act.put];rfl) ?_;repeat(go_big_quiet_step (fail))
   refine eO ?_;clear cp V;have f:=eD (Bs.nil (eF.drew wr));generalize World.drew wr=a at*;apply R6 (A:=λam an M=>Bs wr am [(an,106,#[.int .i64 0,.int .i64 0,.int .i64 0,.int .i64 0,.int .i64 0,.int .i64 0,.int .i64 0,.int .i64 0,.int .i64 0,.int .i64 0,.int .i64 0,.int .i64 0,.int .i64 0,.int .i64 0,.int .i64 0,.int .i64 0,.int .i64 0,.int .i64 0]),(M,67,#[.int .i64 0,.int .i64 0,.int .i64 0,.int .i64 0,.int .i64 0])])
   case k=>
    intro W;repeat' first
     |refine fX ?_ ?_
     |(show jq _ _ _ _ _ (.e [16] _) _ _
       first|exact W a z n f|exact W a z n f.sw)
     |(refine eZ (k:=14) ?_
       go_wp2;have f:=eD (f.al m7 106);generalize a.heap.size=z at*;generalize a.alloc (eN m7 106)=a at*;refine⟨⟨⟨_,f.1⟩,rfl⟩, ?_⟩)
     |(refine eZ (k:=15) ?_
       go_wp2;have f:=eD (f.al j3 67);generalize a.heap.size=n at*;generalize a.alloc (eN j3 67)=a at*;refine⟨⟨⟨_,f.1⟩,rfl⟩, ?_⟩)
     |(refine eT ?_
       go_wp2_with fail
       refine(al _ (x.trans f.1)).mono ?_;rintro e a ⟨rfl,X⟩;have f:=eD (f.to X);clear X;go_wp2;refine fj ?_;repeat(go_big_quiet_step (fail))
       refine eO ?_)
   case l=>
    intro a z n s;have u:=eD s.1;have d:=eD (s.1.eH U.out);have m:=eD (s.2 _ (gM ..)).1;have g:=eD (s.2 _ (gD _ (gM ..))).1;have Y:=eD (s.2 _ (gM ..)).2;have Z:=eD (s.2 _ (gD _ (gM ..))).2;clear s f;refine eT ?_;go_wp2_with (refine eG rfl 106 (.tmp 12) (.tmp 26) rfl z rfl j rfl m.out O1.out I1.out (by rw[Q.out];rfl) ?_)
    intro v1 ad B;have g:=eD ((fi.grown B).eH g.out (by simp only[fd];exact g.out.ne m.out (by decide)));have d:=eD ((fi.grown B).eH d.out (by simp only[fd];exact d.out.ne m.out (by decide)));have u:=eD ((fi.grown B).ext u.out (λp i=>by simp only[fd] at i;have:=Y.out;omega));have m:=eD ad;clear B ad;go_wp2;refine eT ?_;go_wp2_with (refine eG rfl 67 (.tmp 13) (.tmp 27) rfl n rfl [eE 2,eE F,eE 0,eE 0,eE 0] rfl g.out (by simp[Value.oneCell']) (by kernel_rfl) rfl ?_)
    intro v2 t C;have m:=eD ((fi.grown C).eH m.out (by simp only[fd];exact m.out.ne g.out (by decide)));have d:=eD ((fi.grown C).eH d.out (by simp only[fd];exact d.out.ne g.out (by decide)));have u:=eD ((fi.grown C).ext u.out (λp i=>by simp only[fd] at i;have:=Z.out;omega));have g:=eD t;have ae:=eD (m.out.fK (P:=prog) 106 _ underlying106 rfl I1.out);clear C t m Y;go_wp2;refine fj ?_;repeat(go_big_quiet_step (fail))
    refine eO ?_;refine fP ?_;go_wp2_with (first|(refine eK rfl 106 (.tmp 12) rfl _ rfl (fV j.toArray) ?_ ?_)|(refine gI rfl 106 (.tmp 30) (.tmp 29) rfl b 0 rfl (fV j.toArray) rfl j rfl d.out O1.out I1.out (by simp[L0.out,Q.out,R.out]) ?_))
    ·exact ae
    intro v3 H I;have af:j++List.drop j.length (r++[Value.int .i64 id])=j++[Value.int .i64 id]:=by rw[show j.length=r.length by rw[Q.out,L0.out],List.drop_left]
    rw[af] at H;have v:=eD ((fi.fg (S:=λp=>p=b.heap.size) u).trans (fi.grown I) (λp i=>.inl (by simpa using i)));have t:=(fi.grown I).eH g.out (by simp only[fd];exact g.out.ne d.out (by decide));have d:=eD H;have e0:=t.ce 0 (eE 2);have e1:=t.ce 1 (eE F);have g:=eD t;clear I H af ae t u;have HX:=eD (v.ext x (λp i=>by have:p=_:=i;omega));have y:=eD (v.eH aw.out (by omega));have D:=eD (v.eH ax.out (by omega));clear v;go_wp2_with (at_builtin;go_loud(refine lZ rfl _ _ rfl (OR.nil (HX.trans (eF.alloc _ _)) 3 1) rfl (some (eJ _ 0)) 1 [eE F] 1 rfl rfl (ip _ #[eE F] _) (by simp[Value.oneCell']) (by omega) ?_))
    intro v4 w4 o4 g4 _;have ai:=(fi.grown g4).ext (eF.alloc _ _) (λk hk=>by cases hk);have ay:=eD o4;have d:=eD (ai.eH d.out);have y:=eD (ai.eH y.out);have D:=eD (ai.eH D.out);clear o4 g4 ai e0 e1;go_wp2;go_roundw
    case rel=>exact⟨j,.inr ⟨rfl,by go_num,ay.own⟩,d.out,y.out,D.out,ay.ext⟩
    case measure=>simp[intOf]
  ·obtain⟨go,co,rfl,aF,aG,aH,aI⟩:=jI ho (by omega);have az:=eD ho;clear ho aF aG aH aI;have al:=eD H2.out;have V:Hid (∀c,(∃a:EW wr,c=a.w)->(loadVar 106 (eJ b 0)).run prog c=.ok (fV j.toArray) c):=eD (λc ⟨a,w⟩=>by subst w;exact(a.2.eH U.out).load (P:=prog) 106 0 j (by simp) _ underlying106 rfl I1.out);have cp:=oO (x.cell HP);go_wp2;refine jA [0,1,2,3,4,5,6,7,8] [14,15] (.jG (.e [9] (.q [10,11,12,13] (.jG (.e [14] (.e [15] (.e [16] (.e [17] (.q [18] .done))))) (.e [15] (.e [14] (.e [16] (.e [17] (.q [18] .done)))))))) (.jG (.e [14] (.jG (.e [9] (.q [10,11,12,13] (.e [15] (.e [16] (.e [17] (.q [18] .done)))))) (.e [15] (.e [9] (.q [10,11,12,13] (.e [16] (.e [17] (.q [18] .done)))))))) (.e [15] (.jG (.e [9] (.q [10,11,12,13] (.e [14] (.e [16] (.e [17] (.q [18] .done)))))) (.e [14] (.e [9] (.q [10,11,12,13] (.e [16] (.e [17] (.q [18] .done)))))))))) (λc=>∃a:EW wr,c=a.w) (by kernel_rfl) (by kernel_rfl) (by simp[gj];first|rfl|exact⟨rfl,rfl⟩) ⟨⟨World.drew wr,eF.drew wr⟩,rfl⟩ ?_;go_big_quiet_step (fail)
   refine fR rfl 106 (.tmp 16) rfl _ _ rfl V (by simp[Act.put];rfl) ?_;repeat(go_big_quiet_step (fail))
   refine eO ?_;clear cp V;have f:=eD (Bs.nil (eF.drew wr));generalize World.drew wr=a at*;apply R6 (A:=λam an M=>Bs wr am [(an,106,#[.int .i64 0,.int .i64 0,.int .i64 0,.int .i64 0,.int .i64 0,.int .i64 0,.int .i64 0,.int .i64 0,.int .i64 0,.int .i64 0,.int .i64 0,.int .i64 0,.int .i64 0,.int .i64 0,.int .i64 0,.int .i64 0,.int .i64 0,.int .i64 0]),(M,67,#[.int .i64 0,.int .i64 0,.int .i64 0,.int .i64 0,.int .i64 0])])
   case k=>
    intro W;repeat' first
     |refine fX ?_ ?_
     |(show jq _ _ _ _ _ (.e [16] _) _ _
       first|exact W a z n f|exact W a z n f.sw)
     |(refine eZ (k:=14) ?_
       go_wp2;have f:=eD (f.al m7 106);generalize a.heap.size=z at*;generalize a.alloc (eN m7 106)=a at*;refine⟨⟨⟨_,f.1⟩,rfl⟩, ?_⟩)
     |(refine eZ (k:=15) ?_
       go_wp2;have f:=eD (f.al j3 67);generalize a.heap.size=n at*;generalize a.alloc (eN j3 67)=a at*;refine⟨⟨⟨_,f.1⟩,rfl⟩, ?_⟩)
     |(refine eT ?_
       go_wp2_with fail
       refine(al _ (x.trans f.1)).mono ?_;rintro e a ⟨rfl,X⟩;have f:=eD (f.to X);clear X;go_wp2;refine fj ?_;repeat(go_big_quiet_step (fail))
       refine eO ?_)
   case l=>
    intro a z n s;have u:=eD s.1;have d:=eD (s.1.eH U.out);have m:=eD (s.2 _ (gM ..)).1;have g:=eD (s.2 _ (gD _ (gM ..))).1;have Y:=eD (s.2 _ (gM ..)).2;have Z:=eD (s.2 _ (gD _ (gM ..))).2;clear s f;refine eT ?_;go_wp2_with (refine eG rfl 106 (.tmp 12) (.tmp 26) rfl z rfl o rfl m.out O2.out I2.out (by rw[R.out];rfl) ?_)
    intro v1 ad B;have g:=eD ((fi.grown B).eH g.out (by simp only[fd];exact g.out.ne m.out (by decide)));have d:=eD ((fi.grown B).eH d.out (by simp only[fd];exact d.out.ne m.out (by decide)));have u:=eD ((fi.grown B).ext u.out (λp i=>by simp only[fd] at i;have:=Y.out;omega));have m:=eD ad;clear B ad;go_wp2;refine eT ?_;go_wp2_with (refine eG rfl 67 (.tmp 13) (.tmp 27) rfl n rfl [eE 1,eE 0,eE 0,eE 0,eE 0] rfl g.out (by simp[Value.oneCell']) (by kernel_rfl) rfl ?_)
    intro v2 t C;have m:=eD ((fi.grown C).eH m.out (by simp only[fd];exact m.out.ne g.out (by decide)));have d:=eD ((fi.grown C).eH d.out (by simp only[fd];exact d.out.ne g.out (by decide)));have u:=eD ((fi.grown C).ext u.out (λp i=>by simp only[fd] at i;have:=Z.out;omega));have g:=eD t;have ae:=eD (m.out.fK (P:=prog) 106 _ underlying106 rfl I2.out);clear C t m Y;go_wp2;refine fj ?_;repeat(go_big_quiet_step (fail))
    refine eO ?_;refine fP ?_;go_wp2_with (first|(refine eK rfl 106 (.tmp 12) rfl _ rfl (fV o.toArray) ?_ ?_)|(refine gI rfl 106 (.tmp 30) (.tmp 29) rfl b 0 rfl (fV o.toArray) rfl o rfl d.out O2.out I2.out (by simp[L0.out,Q.out,R.out]) ?_))
    ·exact ae
    intro v3 H I;have af:o++List.drop o.length (j++[Value.int .i64 id])=o++[Value.int .i64 id]:=by rw[show o.length=j.length by rw[R.out,Q.out],List.drop_left]
    rw[af] at H;have v:=eD ((fi.fg (S:=λp=>p=b.heap.size) u).trans (fi.grown I) (λp i=>.inl (by simpa using i)));have t:=(fi.grown I).eH g.out (by simp only[fd];exact g.out.ne d.out (by decide));have d:=eD H;have e0:=t.ce 0 (eE 1);have e1:=t.ce 1 (eE 0);have g:=eD t;clear I H af ae t u;have HX:=eD (v.ext x (λp i=>by have:p=_:=i;omega));have y:=eD (v.eH aw.out (by omega));have D:=eD (v.eH ax.out (by omega));have HO:=eD (v.own az (λp i J=>by have e:p=b.heap.size:=J;subst e;exact jX az U.out (by decide) i.symm));clear v;go_wp2_with fail
    refine(Ks aj b n v3 e0).mono ?_;rintro e c ⟨rfl,rfl⟩;clear e0 e1;go_wp2;have aA:Hid (∀c,(∃a:KW [b.heap.size,n] v3,c=a.w)->(loadVar 108 ⟨b.heap.size,0,none⟩).run prog c=.ok (.agg (o++[Value.int .i64 id]).toArray) c):=eD (λc ⟨a,w⟩=>by subst w;exact(a.eH d.out (by simp)).fK (P:=prog) 108 _ underlying108 rfl ak.out);have aB:Hid (∀c,(∃a:KW [b.heap.size,n] v3,c=a.w)->(loadVar 67 (eJ n 0)).run prog c=.ok (fV Qf) c):=eD (λc ⟨a,w⟩=>by subst w;exact(a.eH g.out (by simp)).load (P:=prog) 67 0 [eE 1,eE 0,eE 0,eE 0,eE 0] rfl _ underlying67 rfl (by kernel_rfl));refine gU [b.heap.size,n] [0,1,2,3] [4,5,6,7] 3 ?_;refine fR rfl 108 (.tmp 4) rfl _ _ rfl aA (by simp[Act.put];rfl) ?_;go_big_quiet_step (fail)
    refine fR rfl 67 (.tmp 13) rfl _ _ rfl aB (by simp[Act.put];rfl) ?_;repeat(go_big_quiet_step (fail))
    refine eO ?_;have aJ:=d.out.lt;have aK:=g.out.lt;have aU:n≠b.heap.size+1+1:=by have:=Z.out;omega
    have aV:n≠b.heap.size+1:=by have:=Z.out;omega
    clear aA aB;refine gH ?_;go_wp2_with (refine eG rfl 108 (.tmp 6) (.tmp 55) rfl (b.heap.size+1) rfl (o++[Value.int .i64 id]) rfl y.out.drew aD.out ak.out (by simp[R.out]) ?_)
    intro w9 b9 K;have aL:=eD ((fi.grown K).ext (HX.trans (eF.drew _)));have ao:=(fi.grown K).eH D.out.drew;have ap:=(fi.grown K).own ((eF.drew _).own HO) (λp i J=>by simp only[fd] at J;subst J;exact jX HO y.out (by decide) i.symm);have aq:=K.block b aJ (by simp only[nY,fd];omega);have ar:=K.block n aK (by simp only[nY,fd];omega);have aW:v3.heap.size<=w9.heap.size:=K.size;clear K;go_wp2;refine⟨KC.of (λM E=>by simp only[fm,gp,gq] at E;rcases E with rfl|rfl;exact aq;exact ar), ?_⟩;refine gH ?_;go_wp2;refine⟨KC.of (λM E=>by simp only[fm,gp,gq] at E;rcases E with rfl|rfl;exact aq;exact ar), ?_⟩;refine gH ?_;go_wp2_with (refine eG rfl 67 (.tmp 8) (.tmp 57) rfl (b.heap.size+1+1) rfl [eE 1,eE 0,eE 0,eE 0,eE 0] rfl ao (by simp[Value.oneCell']) (by kernel_rfl) rfl ?_)
    intro aX aC N;have aM:=eD ((fi.grown N).ext aL);have aN:=eD ((fi.grown N).own ap (λp i J=>by simp only[fd] at J;subst J;exact jX ap ao (by decide) i.symm));have aO:=eD (((fi.grown N).eH b9).fK (P:=prog) 108 _ underlying108 rfl ak.out);have aP:=eD (aC.load (P:=prog) 67 0 [eE 1,eE 0,eE 0,eE 0,eE 0] rfl _ underlying67 rfl (by kernel_rfl));have aQ:=(N.block b (by omega) (by simp only[nY,fd];omega)).trans aq;have aR:=(N.block n (by omega) (by simp only[nY,fd];omega)).trans ar;clear N b9 aC ao ap;go_wp2;refine⟨KC.of (λM E=>by simp only[fm,gp,gq] at E;rcases E with rfl|rfl;exact aQ;exact aR), ?_⟩;refine jm ?_;go_wp2;exact iA (Co rfl rfl rfl aO aP) rfl ⟨_,_,rfl,aN,aM⟩
def OV.re(o:OV)(nA:fE)(nc:Nat)(gA:fE)(gc:Nat)(bA:fE)(bc:Nat):OV:={o with nA:=nA,nc:=nc,gA:=gA,gc:=gc,bA:=bA,bc:=bc}
def Tk(w:eI)(o:OV)(e:Ending)(w':eI):Prop:=∃nA nc gA gc bA bc,e=fH (xd (o.re nA nc gA gc bA bc))/\fo w w' (OV.rows (o.re nA nc gA gc bA bc))/\eF w w'
theorem fo.one{B:Nat}{v:eS}{xs:fS}(h:w.ownsRow B 3 1 v xs (ints xs)):fo B w [(v,xs)]:=
 .of (λb a=>by simp only[fm,gp,gq] at a;subst a;exact h) (by unfold iG;simp only[MV,List.filterMap_nil];split<;>simp)
theorem Kt(a:eI):Calls prog 48 #[eW] a λe b=>e=fH (eW)/\a=b:=by have c:=λa:eI=>Lib.run_eql_slice_nil (P:=prog) a 23 3 none 0 0 0 0 underlying23;go_in;go_wp2;go_ret;exact⟨rfl,rfl⟩
theorem IJ(a:OV)(b:eI)(Q:Rd b a.nA (ints (eM a.eP)))(R:Rd b a.gA (ints (eM a.group)))(S:a.nA=none->a.eP.length=0)(T:a.gA=none->a.group.length=0)(hl:a.eP.length<=1000/\a.group.length<=1000):
 Calls prog 79 #[xd a] b (Tk b a):=by
 obtain⟨av,aw⟩:=hl;have U:eF b ((b.alloc (eN a.eL.toArray 177)).alloc (eN tw 177)):=(eF.alloc _ _).trans (eF.alloc _ _);have m:=(eQ.new b 177 a.eL.toArray).alloc (eN tw 177);have s:=eQ.new (b.alloc (eN a.eL.toArray 177)) 177 tw;rw[fM] at s;have t:a.eL.toArray[22]? =some (.slice a.nA a.eP.length a.nc):=rfl;have u:a.eL.toArray[23]? =some (.slice none 0 0):=rfl;have v:a.eL.toArray[24]? =some (.slice a.gA a.group.length a.gc):=rfl;have w:a.eL.toArray[26]? =some (.slice a.bA 0 a.bc):=rfl;have af:=eD (λl (x:eF b l)=>lE a.nA a.eP.length a.nc (ints (eM a.eP)) l S (by simp[ints,eM]) (x.rd Q) (jP _) (by omega));have ag:=eD (λl (x:eF b l)=>lE a.gA a.group.length a.gc (ints (eM a.group)) l T (by simp[ints,eM]) (x.rd R) (jP _) (by omega));have ah:=eD (λl=>Gd a.bA 0 a.bc [] l (λ_=>rfl) rfl (Rd.nil _ _) (by simp) (by omega));have ai:Hid (∀c d f g j k,((((a.eL.toArray.setIfInBounds 22 (.slice c a.eP.length d)).setIfInBounds 23 (eW)).setIfInBounds 24 (.slice f a.group.length g)).setIfInBounds 26 (.slice j 0 k))=(a.re c d f g j k).eL.toArray):=eD (λ_ _ _ _ _ _=>rfl);clear Q R S T;unfold xd;generalize a.eL=vs at*;go_in;go_wp2;generalize(b.alloc (eN vs.toArray 177)).alloc (eN tw 177)=y at*;have aj:=oO (m.cell 22 t);have ak:=oO (m.cell 23 u);have al:=oO (m.cell 24 v);have am:=oO (m.cell 26 w);have n:=eD U;clear U;refine iW [0,1,3,4,6,7,9,10] [2,5,8] (.e [2] (.q [12] (.e [5] (.e [8] (.e [11] (.e [13] (.q [14] (.e [15] (.q [16] (.e [17] (.q [18] (.e [19] .done)))))))))))) ?_;repeat(go_big_quiet_step (fail))
 refine eO ?_;clear aj ak al am;refine eZ ?_;go_wp2_with fail
 refine(af y.drew (n.trans (eF.drew _))).mono ?_;rintro e z ⟨v2,rfl,A,V⟩;obtain⟨c,d,rfl⟩:=eR A;have o:=eD ((eF.drew y).trans V);have W:Hid (fo b z [(.slice c a.eP.length d,eM a.eP)]):=eD (.one (by rw[fv];exact fq A (by show _<=y.heap.size;exact n.size)));clear A V;go_wp2;refine⟨⟨⟨_,o⟩,rfl⟩, ?_⟩;refine fj ?_;repeat(go_big_quiet_step (fail))
 refine eO ?_;refine eZ ?_;go_wp2_with fail
 refine(Kt z).mono ?_;rintro e l ⟨rfl,rfl⟩;go_wp2;refine⟨⟨⟨_,o⟩,rfl⟩, ?_⟩;refine eZ ?_;go_wp2_with fail
 refine(ag z (n.trans o)).mono ?_;rintro e w4 ⟨v4,rfl,B,C⟩;obtain⟨f,g,rfl⟩:=eR B;have X:=eD (o.trans C);have Y:=eD (W.add C (N:=[(.slice f a.group.length g,eM a.group)]) (.one (by rw[fv];exact B)) (eY n.size o.size));clear B C W;go_wp2;refine⟨⟨⟨_,X⟩,rfl⟩, ?_⟩;refine eT ?_;go_wp2_with fail
 refine(ah w4).mono ?_;rintro e p ⟨v5,rfl,Z,D⟩;obtain⟨j,k,rfl⟩:=eR Z;have E:=eD (X.trans D);have F:=eD (Y.ext D);have i:=E.eH m;have k5:=E.eH s;clear Z D Y m s;have f22:=i.frozen 22;have f23:=i.frozen 23;have f24:=i.frozen 24;have f26:=i.frozen 26;have d22:=i.cell 22 t;have d23:=i.cell 23 u;have d24:=i.cell 24 v;have d26:=i.cell 26 w;go_wp2;refine eT ?_;go_wp2;refine fj ?_;repeat(go_big_quiet_step (fail))
 refine eO ?_;refine eT ?_;go_wp2;refine fj ?_;repeat(go_big_quiet_step (fail))
 refine eO ?_;refine eT ?_;go_wp2;refine fj ?_;repeat(go_big_quiet_step (fail))
 refine eO ?_;refine eT ?_;go_wp2;rw[m8];refine fP ?_;have r:fi (λG=>G=b.heap.size) p ((((p.setCell (eJ b 22) (.slice c a.eP.length d)).setCell (eJ b 23) (eW)).setCell (eJ b 24) (.slice f a.group.length g)).setCell (eJ b 26) (.slice j 0 k)):=(((fi.set p _ 22 _).trans (fi.set _ _ 23 _) (λad h=>.inl h)).trans (fi.set _ _ 24 _) (λad h=>.inl h)).trans (fi.set _ _ 26 _) (λad h=>.inl h);have H:=(((i.set 22 (.slice c a.eP.length d)).set 23 (eW)).set 24 (.slice f a.group.length g)).set 26 (.slice j 0 k);rw[ai] at H;generalize((((p.setCell (eJ b 22) (.slice c a.eP.length d)).setCell (eJ b 23) (eW)).setCell (eJ b 24) (.slice f a.group.length g)).setCell (eJ b 26) (.slice j 0 k))=w6 at*;have I:=fi.eH r k5 (by omega);have an:=eD (r.ext (n.trans E) (λao hz=>by have:ao=_:=hz;omega));have J:Hid (fo b w6 [(.slice c a.eP.length d,eM a.eP),(.slice f a.group.length g,eM a.group)]):=eD (F.lS r (λG K e=>by have e:=e;subst e;obtain⟨ap,L,M⟩:=fu.1 K;exact jX (F.mem L) i (by decide) M.symm))
 have ae:=eD (H.fK (P:=prog) 177 _ underlying177 rfl (by rw[gx];exact iR));clear r f22 f23 f24 f26 d22 d23 d24 d26 i k5 H F t u v w;go_wp2_with (first|(refine eK rfl 177 (.tmp 1) rfl _ rfl (fV (a.re c d f g j k).eL.toArray) ?_ ?_)|(refine eG rfl 177 (.tmp 2) (.tmp 19) rfl (b.heap.size+1) rfl (a.re c d f g j k).eL rfl I (j4 _) (by rw[gx];exact iR) (by rw[gx];rfl) ?_))
 ·exact ae
 intro w7 b7 O;have aq:=eD ((fi.grown O).ext an);have ar:=eD (J.lS (fi.grown O) (λG K e=>by simp only[fd] at e;subst e;obtain⟨ap,L,M⟩:=fu.1 K;exact jX (J.mem L) I (by decide) M.symm))
 have au:=eD (b7.fK (P:=prog) 177 _ underlying177 rfl (by rw[gx];exact iR));clear O b7 I ae J;go_wp2;exact iA (iN rfl rfl au) rfl ⟨c,d,f,g,j,k,rfl,ar,aq⟩
section
theorem qd{c:Nat}{e:ik}{size:Nat}(h:w.ownsRow n e size (.slice A k c) k l)(b:A=none):k=0:=by
 subst b;rcases h.2 with⟨a,d⟩|⟨f,g,i,a,_⟩
 ·exact d
 ·injection a with a;cases a
section
variable {w:eI} {B p:Nat} {s:LS} {ex:List (eS×fS)}
theorem yS(h:it w B p s ex){a:OV}(b:a∈s.os):w.ownsRow 0 3 1 (.slice a.nA a.eP a.nc) a.eP (ints (eM a.eP))/\w.ownsRow 0 3 1 (.slice a.gA a.group a.gc) a.group (ints (eM a.group)):=by have c:=h.ints.mem (p:=a.nf) (by simp only[LS.rows,OV.rows,gu,fm,rA];exact .inl (.inr (.inr ⟨a,b,.inl rfl⟩)));have d:=h.ints.mem (p:=a.m6) (by simp only[LS.rows,OV.rows,gu,fm,rA];exact .inl (.inr (.inr ⟨a,b,.inr (.inl rfl)⟩)));simp only[OV.nf,fv] at c;simp only[OV.m6,fv] at d;exact⟨c,d⟩
def Re(w:eI)(o:OV)(e:Ending)(w':eI):Prop:=∃nA nc gA gc bA bc,e=fH (ij #[xd (o.re nA nc gA gc bA bc),eE 0])/\fo w w' (OV.rows (o.re nA nc gA gc bA bc))/\eF w w'
theorem pv(h:it w B p s ex)(K:s.os.length<=1000){i:Nat}(f:i<s.os.length)(t:∀j (Y:j<i),s.os[j].id≠s.os[i].id)(L:s.os[i].eP.length<=1000/\s.os[i].group.length<=1000):
 Calls prog 50 #[fw p,eE (s.os[i].id:Nat)] w (Re w s.os[i]):=by
 have b:=eF.alloc w (eN tw 177);have g:=eD (kv (h.ext b) K s.os[i].id);rw[mv f rfl t] at g;obtain⟨k,l⟩:=yS h (eU f);have u:=eD (λv (a:eF w v)=>IJ s.os[i] v (Rd.fC (a.own k)) (Rd.fC (a.own l)) (qd k) (qd l) L);obtain⟨Z,ad,x,hb,y,_⟩:=jW h.Kq f;have c:=b.cell (h.eH.ce 6 (.slice s.oA s.os.length s.oc));rw[x] at c;have z:=eD y;have M:=eD (eQ.new w 177 tw);have N:=eD b;clear k l y h t x b;generalize s.os[i]=m at*;generalize m.id=id at*;go_in;go_wp2_with fail
 generalize w.alloc (eN tw 177)=w1 at*;refine g.mono ?_;rintro e A ⟨rfl,a⟩;have d:=eD (N.trans a);have c:=a.cell c;have O:=eD (a.eH M);clear a g;go_wp2_with (refine eK rfl 177 (.tmp 18) rfl _ rfl (xd m) ?_ ?_)
 ·exact z A d
 clear c;go_wp2_with fail
 refine(u A d).mono ?_;rintro e w3 ⟨C,D,E,F,G,H,rfl,I,a⟩;have n:=eD I;have Q:=eD (d.trans a);have o:=a.eH O;clear I a u z;unfold xd;go_wp2_with (refine eG rfl 177 (.tmp 4) (.tmp 20) rfl w rfl (m.re C D E F G H).eL rfl o (j4 _) (by rw[gx];exact iR) (by rw[gx];rfl) ?_)
 intro w4 J r;have R:=eD ((fi.grown r).ext Q);have S:=eD (n.lS (fi.grown r) (λae T e=>by simp only[fd] at e;subst e;obtain⟨q,U,V⟩:=fu.1 T;exact jX (n.mem U) o (by decide) V.symm))
 have W:=eD (J.fK (P:=prog) 177 _ underlying177 rfl (by rw[gx];exact iR));have X:=d.size;clear r J o n;go_wp2_with fail
 exact iA (oY rfl rfl W) rfl ⟨C,D,E,F,G,H,rfl,S.mono X,R⟩
theorem IK{os:List OV}(h:n<os.length):(os.map OV.id).getD n 0=os[n].id:=by simp[jx,h]
def gw(os:List OV)(l:fe):fe:=l.map λx=>(os.map OV.id).getD x 0
theorem Bl(h:it w B p s ex)(a:fe)(g:∀i∈a,i<s.os.length)(K:a.length<=1000)(j:fE)(k y:Nat)(z:a.length=k)(l:Rd w j (ints (eM a))):
 Calls prog 259 #[fw p,.slice j k y] w (pu w (gw s.os a)):=by
 subst z;have A:=eD l;have C:=eD g;have D:=eD h.Kq;have E:=eD (h.eH.ce 6 (.slice s.oA s.os.length s.oc));clear l g h;go_in;go_wp2;go_loopw [10,5] (λd F wr=>∃b:Nat,b<=a.length/\d=eE b/\OR w wr 3 1 F b (ints (eM (gw s.os (a.take b))))) (λd _ _=>a.length- (intOf d).toNat)
 case atStart=>exact⟨0,eX _,rfl,OR.nil (eF.refl w) _ _⟩
 case round=>
  obtain⟨b,L,rfl,m⟩:=hrel;have c:=eD m;clear m;by_cases f:b<a.length
  ·obtain⟨M,N,rfl,O,G⟩:=ja (c.ext.rd A) f;have n:=C _ (eU f);obtain⟨P,Q,o,R,_,r⟩:=jW D n;have t:=c.ext.cell E;rw[o] at t;have u:=c.ext.cell (r 0 (eE (s.os[a[b]].id:Nat)) rfl);rw[m5] at u;have H:Hid (gw s.os (a.take (b+1))=gw s.os (a.take b)++[s.os[a[b]].id]):=eD (by rw[iz f];simp only[gw,iC,hU,jt,IK n])
   generalize s.os[a[b]].id=id at*;generalize a[b]=i at*;clear r o;go_wp2_with (at_builtin;go_loud(refine lZ rfl _ _ rfl (c.to (eF.alloc _ _)) rfl (some (eJ _ 0)) 1 [eE id] 1 rfl rfl (ip _ #[eE (id:Nat)] _) (by simp[Value.oneCell']) (by omega) ?_))
   intro S T v I _;have J:=eD v;clear v I t u G;go_wp2;go_roundw
   case rel=>exact⟨b+1,by omega,by go_num,by rw[H,iJ,mI];exact J⟩
   case measure=>simp[intOf];omega
  ·obtain rfl:b=a.length:=by omega
   go_wp2;go_ret;have x:=c.own;rw[iT] at x;exact⟨_,rfl,by rw[show(gw s.os a).length=a.length by simp[gw]];exact x,c.ext⟩
end
end
section
theorem tO{e:ik}{size:Nat}(h:w.ownsRow n e size x k l){b:Nat}(a:x.ownBlock=some b):jT w [e] b:=by
 rcases h.2 with⟨rfl,_⟩|⟨d,f,g,rfl,_,c,_⟩
 ·cases a
 ·simp only[Value.ownBlock,fd] at a;subst a;exact⟨_,_,_,c,by simp⟩
theorem tP{a:List OV}(d:k<a.length)(h:a[k].id=n):oZ a n=(sG (a.map OV.ob) n:Nat)/\sG (a.map OV.ob) n<a.length:=by
 have f:(a.map OV.ob).findIdx (λb=>b.id==n)=a.findIdx (λb=>b.id==n):=by rw[List.findIdx_map];rfl
 have c:a.findIdx (λb=>b.id==n)<a.length:=Ux ⟨a[k],eU d,by simpa using h⟩;unfold oZ sG;rw[f,fW c];exact⟨rfl,c⟩
def qC(f:Nat->Nat)(l:fe)(k:Nat):fe:=(l.take k).map f++l.drop k
theorem yT(a:Nat->Nat)(l:fe)(b:Nat):(qC a l b).length=l.length:=by simp only[qC,fT,gW,ig,jE];omega
theorem IL(c:Nat->Nat)(l:fe){a:Nat}(b:a<l.length):(qC c l a)[a]'(by rw[yT];exact b)=l[a]:=by simp only[qC];rw[Ec (by rw[gW,ig];exact IM _ _)];simp[ig,lK (lN b)]
theorem EG(b:Nat->Nat)(l:fe){a:Nat}(c:a<l.length):(qC b l a).set a (b l[a])=qC b l (a+1):=by
 simp only[qC];rw[yj _ _ (by rw[gW,ig];exact IM _ _),iz c,iC,iK];congr 1
 have:a- ((l.take a).map b).length=0:=by simp[ig,lK (lN c)]
 rw[this,sN c];rfl
theorem ints_set(l:fe)(a b:Nat):(ints (eM l)).set a (eE (b:Nat))=ints (eM (l.set a b)):=by simp only[ints,eM,qQ]
def sH(w:eI)(os:List OV)(e:Ending)(w':eI):Prop:=∃A c es,es.length=os.length/\(∀i,mQ es i=zL (os.map OV.ob) i)/\e=fH (.slice A os c)/\nF w' A es/\eF w w'
theorem Bm:(prog.info? 23).map (λa=>(a.zero,a.size,a.bytes))=some (some (.slice none 0 0),1,24):=by kernel_rfl
section
variable {w:eI} {B p:Nat} {s:LS} {ex:List (eS×fS)}
theorem yU(h:it w B p s ex)(hl:s.os.length<=100)(O:∀a∈s.os,a.eP.length<=1000)(P:∀a∈s.os,∀n∈a.eP,∃c,∃z:c<s.os.length,s.os[c].id=n):
 Calls prog 192 #[fw p,fz false] w (sH w s.os):=by
 obtain⟨i0,al,am,an,ao⟩:=info_parts Bm;have ap:=eD P;have aq:=eD O;have ar:=eD h.Kq;have au:=eD (h.eH.ce 6 (.slice s.oA s.os.length s.oc));have av:=eD (λw' (hx:eF w w') (n:Nat)=>kv (h.ext hx) (by omega) n);have aw:=eD (λa (r:a∈s.os)=>(yS h r).1);clear h P O;go_in;have c6:=au.out;go_wp2;clear c6;go_loopw [16,5] (λc ax wr=>∃(f:Nat) (d:List Ed),f<=s.os.length/\c=eE f/\d.length=f/\OR w wr 23 1 ax f (d.map Ed.cell)/\(∀e∈d,mT wr 3 e.A (ints (eM e.l)))/\(∀b (o:b<d.length) (A:b<s.os.length),d[b].l=s.os[b].eP.map (sG (s.os.map OV.ob)))) (λc _ _=>s.os.length- (intOf c).toNat)
 case atStart=>exact⟨0,[],eX _,rfl,rfl,OR.nil (eF.refl w) _ _,by simp,λb o=>by simp at o⟩
 case round=>
  obtain⟨i,rfl⟩:∃i,i=wr:=⟨wr,rfl⟩;obtain⟨f,d,hk,rfl,C,r,Q,R⟩:=hrel;have j:=eD r;have S:=eD Q;have D:=eD R;clear r Q R;by_cases t:f<s.os.length
  ·obtain⟨aT,aU,hA,hb,T,ay⟩:=jW ar t;have U:=eD (T i j.ext);have az:=eD (aw _ (eU t));have aA:=eD (ap _ (eU t));have aV:=aq _ (eU t);have aB:Hid (∀e:Ed,e.l=s.os[f].eP.map (sG (s.os.map OV.ob))->∀b (o:b<(d++[e]).length) (A:b<s.os.length),(d++[e])[b].l=s.os[b].eP.map (sG (s.os.map OV.ob))):=eD (λe he b o A=>by
    by_cases V:b<d.length
    ·rw[J3 V];exact D b V A
    ·have aC:b=f:=by simp at o;omega
     subst aC;rw[Ec (by omega)];simpa[C] using he)
   rw[hA];clear T ay D;generalize s.os[f]=a at*;have W:=eQ.new i 177 tw;go_wp2_with (first|(refine eK rfl 177 (.tmp 18) rfl _ rfl (xd a) ?_ ?_)|(refine eG rfl 177 (.tmp 7) (.tmp 19) rfl i rfl a.eL rfl W (j4 _) (by rw[gx];exact iR) (by rw[gx];rfl) ?_))
   ·exact U
   intro w1 E X;have u:=eD ((fi.grown X).ext (eF.alloc _ _));have aD:=E.ce 22 (.slice a.nA a.eP.length a.nc);have F:=E.ce 23 (eW);have G:=(j.ext.trans u).own az;have Y:=eD (lE a.nA a.eP.length a.nc (ints (eM a.eP)) w1 (qd G) (by simp[ints,eM]) (Rd.fC G) (jP _) (by omega));clear X W G U;go_wp2_with fail
   refine Y.mono ?_;rintro e Z ⟨v2,rfl,o2,H⟩;have ad:Hid (OR i Z 3 1 v2 a.eP.length (ints (eM a.eP))):=eD ⟨fq o2 u.size,u.trans H⟩;have F:=H.cell F;clear o2 H Y aD E u;clear F;obtain⟨v3,aE⟩:∃v3,v2=v3:=⟨_,rfl⟩;obtain⟨w3,aF⟩:∃w3,Z=w3:=⟨_,rfl⟩;subst aE aF;have ae:=ad;clear ad;obtain⟨m,k,I⟩:=ae.mb;subst I;go_wp2;go_loopw [30] (λc wr=>∃q:Nat,q<=a.eP.length/\c=eE q/\OR i wr 3 1 (.slice m a.eP.length k) a.eP.length (ints (eM (qC (sG (s.os.map OV.ob)) a.eP q)))) (λc _=>a.eP.length- (intOf c).toNat)
   case atStart=>exact⟨0,eX _,rfl,by simpa[qC] using ae.out⟩
   case round=>
    obtain⟨q,hq,rfl,af⟩:=hrel;have g:=eD af;clear af;by_cases v:q<a.eP.length
    ·obtain⟨ag,c4,aG,aW,aX,_,_⟩:=jI g.own (by omega);injection aG with aH _ aI
     subst aH aI;obtain⟨bq,oq,ah,aY,x⟩:=ja (Rd.fC g.own) (l:=qC (sG (s.os.map OV.ob)) a.eP q) (by rw[yT];exact v);rw[IL _ _ v] at x;simp only[fd,ny,gP] at ah;obtain⟨rfl,rfl⟩:=ah;rw[lH] at x;obtain⟨ix,aJ,aK⟩:=aA _ (eU v);obtain⟨aL,aZ⟩:=tP aJ aK;have J:=eD (av wr (j.ext.trans g.ext) a.eP[q]);rw[aL] at J;have aM:=eD (EG (sG (s.os.map OV.ob)) a.eP v);generalize a.eP[q]=n at*;generalize hy:sG (s.os.map OV.ob) n=ai at*;go_wp2_with fail
     refine J.mono ?_;rintro e w4 ⟨rfl,K⟩;have y:=g.to K;have f4:=y.own.frozenAt q;have d4:=K.cell x;obtain⟨aj,ak⟩:=y.own.stored q (eE (ai:Nat));have aN:Hid (OR i (w4.setCell (eJ ag q) (eE (ai:Nat))) 3 1 (fN ag a.eP.length k) a.eP.length (ints (eM (qC (sG (s.os.map OV.ob)) a.eP (q+1))))):=eD ⟨by rw[<-aM,<-ints_set];exact aj,(fi.grown ak).ext y.ext⟩
     clear K y x aj ak J;go_wp2;go_roundw
     case rel=>exact⟨q+1,by omega,by go_num,aN⟩
     case measure=>simp[intOf];omega
    ·obtain rfl:q=a.eP.length:=by omega
     have aO:qC (sG (s.os.map OV.ob)) a.eP a.eP.length=a.eP.map (sG (s.os.map OV.ob)):=by simp[qC]
     rw[aO] at g;have aP:=eD (mT.fC g.own (Rd.fC g.own));go_wp2_with (at_builtin;go_loud(refine nr rfl _ _ 22 rfl 23 i0 _ 1 24 underlying22 al am an ao rfl (by omega) (j.to (g.ext.trans (eF.alloc _ _))) rfl (some (eJ _ 0)) 1 [.slice m a.eP.length k] 1 rfl rfl (ip _ #[.slice m a.eP.length k] _) (by simp[Value.oneCell']) (by unfold maxLen;omega) (by omega) ?_))
     intro v6 w6 o6 L _;have aQ:=eD o6;have M:∀N,jT (wr.alloc (eN #[.slice m a.eP.length k] 23)) [3] N->¬some N=(_:eS).ownBlock:=λN hz e=>(hz.not (L':=[23]) (by decide)) (tO (j.to (g.ext.trans (eF.alloc _ _))).own e.symm);have aR:Hid (∀e∈d++[⟨m,k,a.eP.map (sG (s.os.map OV.ob))⟩],mT w6 3 e.A (ints (eM e.l))):=eD (λe he=>by
      rcases gu.1 he with he|he
      ·exact((S e he).ext (g.ext.trans (eF.alloc _ _))).lS (fi.grown L) M
      ·simp only[fm,gp,gq] at he;subst he;exact(aP.ext (eF.alloc _ _)).lS (fi.grown L) M)
     clear o6 L M;go_wp2;go_roundw
     case rel=>exact⟨f+1,d++[⟨m,k,a.eP.map (sG (s.os.map OV.ob))⟩],by omega,by go_num,by simp[C],by simpa[Ed.cell] using aQ.out,aR.out,aB.out _ rfl⟩
     case measure=>simp[intOf];omega
  ·obtain rfl:f=s.os.length:=by omega
   obtain⟨Av,cv,I⟩:=j.mb;subst I;have aS:Hid (sH w s.os (fH (.slice Av s.os.length cv)) i):=eD ⟨Av,cv,d,C,λc=>by
    unfold mQ zL;by_cases z:c<s.os.length
    ·rw[gg (by omega),gg (by simpa using z)];simp only[jy];exact D c (by omega) z
    ·rw[tB (by omega),tB (by simp;omega)],rfl,⟨j.out.rd rfl,λe he=>(S.out e he).rd⟩,j.out.ext⟩
   go_wp2;go_ret;exact aS
theorem GZ(h:it w B p s ex)(hl:s.os.length<=100)(P:∀a∈s.os,a.eP.length<=1000)(Q:∀a∈s.os,∀n∈a.eP,∃c,∃A:c<s.os.length,s.os[c].id=n):
 Calls prog 192 #[fw p,fz true] w (sH w s.os):=by
 obtain⟨i0,al,am,an,ao⟩:=info_parts Bm;have ap:=eD Q;have aq:=eD P;have ar:=eD h.Kq;have au:=eD (h.eH.ce 6 (.slice s.oA s.os.length s.oc));have av:=eD (λw' (hx:eF w w') (n:Nat)=>kv (h.ext hx) (by omega) n);have aw:=eD (λa (r:a∈s.os)=>(yS h r).1);clear h Q P;go_in;have c6:=au.out;go_wp2;clear c6;go_loopw [16,5] (λc ax wr=>∃(f:Nat) (d:List Ed),f<=s.os.length/\c=eE f/\d.length=f/\OR w wr 23 1 ax f (d.map Ed.cell)/\(∀e∈d,mT wr 3 e.A (ints (eM e.l)))/\(∀b (o:b<d.length) (C:b<s.os.length),d[b].l=s.os[b].eP.map (sG (s.os.map OV.ob)))) (λc _ _=>s.os.length- (intOf c).toNat)
 case atStart=>exact⟨0,[],eX _,rfl,rfl,OR.nil (eF.refl w) _ _,by simp,λb o=>by simp at o⟩
 case round=>
  obtain⟨g,rfl⟩:∃g,g=wr:=⟨wr,rfl⟩;obtain⟨f,d,hk,rfl,D,r,R,S⟩:=hrel;have j:=eD r;have T:=eD R;have E:=eD S;clear r R S;by_cases t:f<s.os.length
  ·obtain⟨aR,aS,hA,hb,U,ay⟩:=jW ar t;have V:=eD (U g j.ext);have az:=eD (aw _ (eU t));have aA:=eD (ap _ (eU t));have aT:=aq _ (eU t);have aB:Hid (∀e:Ed,e.l=s.os[f].eP.map (sG (s.os.map OV.ob))->∀b (o:b<(d++[e]).length) (C:b<s.os.length),(d++[e])[b].l=s.os[b].eP.map (sG (s.os.map OV.ob))):=eD (λe he b o C=>by
    by_cases W:b<d.length
    ·rw[J3 W];exact E b W C
    ·have aC:b=f:=by simp at o;omega
     subst aC;rw[Ec (by omega)];simpa[D] using he)
   rw[hA];clear U ay E;generalize s.os[f]=a at*;have X:=eQ.new g 177 tw;go_wp2_with (first|(refine eK rfl 177 (.tmp 18) rfl _ rfl (xd a) ?_ ?_)|(refine eG rfl 177 (.tmp 7) (.tmp 19) rfl g rfl a.eL rfl X (j4 _) (by rw[gx];exact iR) (by rw[gx];rfl) ?_))
   ·exact V
   intro w1 F Y;have u:=eD ((fi.grown Y).ext (eF.alloc _ _));have aD:=F.ce 22 (.slice a.nA a.eP.length a.nc);have G:=F.ce 23 (eW);have H:=(j.ext.trans u).own az;have Z:=eD (lE a.nA a.eP.length a.nc (ints (eM a.eP)) w1 (qd H) (by simp[ints,eM]) (Rd.fC H) (jP _) (by omega));clear Y X H V;go_wp2_with fail
   refine Z.mono ?_;rintro e w2 ⟨v2,rfl,o2,I⟩;have ad:Hid (OR g w2 3 1 v2 a.eP.length (ints (eM a.eP))):=eD ⟨fq o2 u.size,u.trans I⟩;have G:=I.cell G;clear o2 I Z aD F u;go_wp2_with (at_builtin;go_loud(refine lZ rfl _ _ rfl ad rfl none 0 [] 0 rfl rfl (Rd.nil _ _) (by simp) (by omega) ?_))
   intro v3 w3 v g3 _;have v:OR g w3 3 1 v3 a.eP.length (ints (eM a.eP)):=by simpa using v
   have ae:=eD v;clear v g3 G ad;obtain⟨m,k,J⟩:=ae.mb;subst J;go_wp2;go_loopw [30] (λc wr=>∃q:Nat,q<=a.eP.length/\c=eE q/\OR g wr 3 1 (.slice m a.eP.length k) a.eP.length (ints (eM (qC (sG (s.os.map OV.ob)) a.eP q)))) (λc _=>a.eP.length- (intOf c).toNat)
   case atStart=>exact⟨0,eX _,rfl,by simpa[qC] using ae.out⟩
   case round=>
    obtain⟨q,hq,rfl,af⟩:=hrel;have i:=eD af;clear af;by_cases x:q<a.eP.length
    ·obtain⟨ag,c4,aE,aU,aV,_,_⟩:=jI i.own (by omega);injection aE with aF _ aG
     subst aF aG;obtain⟨bq,oq,ah,aW,y⟩:=ja (Rd.fC i.own) (l:=qC (sG (s.os.map OV.ob)) a.eP q) (by rw[yT];exact x);rw[IL _ _ x] at y;simp only[fd,ny,gP] at ah;obtain⟨rfl,rfl⟩:=ah;rw[lH] at y;obtain⟨ix,aH,aI⟩:=aA _ (eU x);obtain⟨aJ,aX⟩:=tP aH aI;have K:=eD (av wr (j.ext.trans i.ext) a.eP[q]);rw[aJ] at K;have aK:=eD (EG (sG (s.os.map OV.ob)) a.eP x);generalize a.eP[q]=n at*;generalize hy:sG (s.os.map OV.ob) n=ai at*;go_wp2_with fail
     refine K.mono ?_;rintro e w4 ⟨rfl,L⟩;have z:=i.to L;have f4:=z.own.frozenAt q;have d4:=L.cell y;obtain⟨aj,ak⟩:=z.own.stored q (eE (ai:Nat));have aL:Hid (OR g (w4.setCell (eJ ag q) (eE (ai:Nat))) 3 1 (fN ag a.eP.length k) a.eP.length (ints (eM (qC (sG (s.os.map OV.ob)) a.eP (q+1))))):=eD ⟨by rw[<-aK,<-ints_set];exact aj,(fi.grown ak).ext z.ext⟩
     clear L z y aj ak K;go_wp2;go_roundw
     case rel=>exact⟨q+1,by omega,by go_num,aL⟩
     case measure=>simp[intOf];omega
    ·obtain rfl:q=a.eP.length:=by omega
     have aM:qC (sG (s.os.map OV.ob)) a.eP a.eP.length=a.eP.map (sG (s.os.map OV.ob)):=by simp[qC]
     rw[aM] at i;have aN:=eD (mT.fC i.own (Rd.fC i.own));go_wp2_with (at_builtin;go_loud(refine nr rfl _ _ 22 rfl 23 i0 _ 1 24 underlying22 al am an ao rfl (by omega) (j.to (i.ext.trans (eF.alloc _ _))) rfl (some (eJ _ 0)) 1 [.slice m a.eP.length k] 1 rfl rfl (ip _ #[.slice m a.eP.length k] _) (by simp[Value.oneCell']) (by unfold maxLen;omega) (by omega) ?_))
     intro v6 w6 o6 M _;have aO:=eD o6;have N:∀O,jT (wr.alloc (eN #[.slice m a.eP.length k] 23)) [3] O->¬some O=(_:eS).ownBlock:=λO hz e=>(hz.not (L':=[23]) (by decide)) (tO (j.to (i.ext.trans (eF.alloc _ _))).own e.symm);have aP:Hid (∀e∈d++[⟨m,k,a.eP.map (sG (s.os.map OV.ob))⟩],mT w6 3 e.A (ints (eM e.l))):=eD (λe he=>by
      rcases gu.1 he with he|he
      ·exact((T e he).ext (i.ext.trans (eF.alloc _ _))).lS (fi.grown M) N
      ·simp only[fm,gp,gq] at he;subst he;exact(aN.ext (eF.alloc _ _)).lS (fi.grown M) N)
     clear o6 M N;go_wp2;go_roundw
     case rel=>exact⟨f+1,d++[⟨m,k,a.eP.map (sG (s.os.map OV.ob))⟩],by omega,by go_num,by simp[D],by simpa[Ed.cell] using aO.out,aP.out,aB.out _ rfl⟩
     case measure=>simp[intOf];omega
  ·obtain rfl:f=s.os.length:=by omega
   obtain⟨Av,cv,J⟩:=j.mb;subst J;have aQ:Hid (sH w s.os (fH (.slice Av s.os.length cv)) g):=eD ⟨Av,cv,d,D,λc=>by
    unfold mQ zL;by_cases A:c<s.os.length
    ·rw[gg (by omega),gg (by simpa using A)];simp only[jy];exact E c (by omega) A
    ·rw[tB (by omega),tB (by simp;omega)],rfl,⟨j.out.rd rfl,λe he=>(T.out e he).rd⟩,j.out.ext⟩
   go_wp2;go_ret;exact aQ
end
end
section
structure G1(es:List Ed):Prop where
 lt:∀n,∀k∈mQ es n,k<es.length
 iO:es.length<=60
 Bj:∀n,(mQ es n).length<=60
section
variable (es:List Ed) (A:fE) (c:Nat) (w:eI)
theorem G2(j:nF w A es)(f:G1 es):Calls prog 363 #[.slice A es c] w λe m=>e=fH (eE 0)/\w=m:=by
 have n:=eD j;have k:=eD f;have t:=f.iO;clear j f;go_in;go_wp2;go_loop [12] (λb=>∃a:Nat,a<=es.length/\b=eE a) (λb=>es.length- (intOf b).toNat)
 case atStart=>exact⟨0,by omega,rfl⟩
 case round=>
  obtain⟨a,f,rfl⟩:=hrel;by_cases g:a<es.length
  ·obtain⟨u,v,rfl,x,o,i⟩:=n.at g;have d:=k.lt a;rw[vR g] at d;have d:=eD d;have p:=k.Bj a;rw[vR g] at p;generalize es[a]=r at*;obtain⟨y,z,el⟩:=r;simp only[Ed.cell] at o i d;have s:=eD i;clear i;go_wp2;go_loop [18] (λb=>∃q:Nat,q<=el.length/\b=eE q) (λb=>el.length- (intOf b).toNat)
   case atStart=>exact⟨0,by omega,rfl⟩
   case round=>
    obtain⟨q,B,rfl⟩:=hrel;by_cases l:q<el.length
    ·obtain⟨C,D,rfl,E,F⟩:=ja s l;have G:=d _ (eU l);generalize el[q]=H at*;go_wp2;go_round
     case rel=>exact⟨q+1,by omega,by go_num⟩
     case measure=>simp[intOf];omega
    ·obtain rfl:q=el.length:=by omega
     go_wp2;go_round
     case rel=>exact⟨a+1,by omega,by go_num⟩
     case measure=>simp[intOf];omega
  ·obtain rfl:a=es.length:=by omega
   go_wp2;go_ret;exact⟨rfl,rfl⟩
theorem EH(d:nF w A es)(f:G1 es)(a:fe)(g:∀i∈a,i<es.length)(v:a.length<=200)(j:fE)(k o:Nat)(p:a.length=k)(l:Rd w j (ints (eM a))):
 Calls prog 321 #[.slice A es c,.slice j k o] w λe r=>e=fH (fz true)/\w=r:=by
 have s:=eD (G2 es A c w d f);have t:=eD l;have u:=eD g;subst p;clear d f l g;go_in;go_wp2;go_loop [9] (λb=>∃m:Nat,m<=a.length/\b=eE m) (λb=>a.length- (intOf b).toNat)
 case atStart=>exact⟨0,by omega,rfl⟩
 case round=>
  obtain⟨q,x,rfl⟩:=hrel;by_cases n:q<a.length
  ·obtain⟨y,z,rfl,B,C⟩:=ja t n;have D:=u _ (eU n);generalize a[q]=i at*;go_wp2;go_round
   case rel=>exact⟨q+1,by omega,by go_num⟩
   case measure=>simp[intOf];omega
  ·obtain rfl:q=a.length:=by omega
   go_wp2_with fail
   refine s.mono ?_;rintro e E ⟨rfl,rfl⟩;go_wp2;go_ret;exact⟨rfl,rfl⟩
end
def jY(n:Nat)(out:fe):kx:=((List.range n).map λi=>Value.bool (decide (i∈out))).toArray
theorem uS{out:fe}(h:k<n):(jY n out)[k]? =some (fz (decide (k∈out))):=by simp[jY,h]
theorem vS{out:fe}:(jY n out).setIfInBounds k (fz true)=jY n (out++[k]):=by
 apply Array.ext
 ·simp[jY]
 ·intro a b c;simp only[jY,Sq,List.getElem_toArray,tk,jy,Nc];split
  ·next h=>subst h;simp
  ·next h=>simp[nW h]
structure sQ(w0 w:eI)(bs g bo n:Nat)(v:eS)(out:fe):Prop where
 or:OR w0 w 3 1 v out.length (ints (eM out))
 seen:eQ w g 4 (jY n out)
 row:eQ w bo 23 #[v]
 Vv:eQ w bs 175 #[.slice (some ⟨g,0,none⟩) n n]
 nd:out.Nodup
 lt:∀x∈out,x<n
 og:w0.heap.size<=g
 ob:w0.heap.size<=bo
theorem sQ.len{g n:Nat}{v:eS}{out:fe}(h:sQ w u k g m n v out):out.length<=n:=iM out h.nd h.lt
theorem sQ.put{w:eI}{bs g n x:Nat}{v:eS}{out:fe}(h:sQ u w bs g k n v out)(G:x<n)(t:x∉out){j:eI}(e:eF (w.setCell ⟨g,x,none⟩ (.bool true)) j)(l:OR u W 3 1 y (out.length+1) (ints (eM out)++[.int .i64 x]))(d:j.grownBy W v.ownBlock):sQ u (W.setCell ⟨k,0,none⟩ y) bs g k n y (out++[x]):=by
 have f:=h.seen.set x (fz true);rw[vS] at f;have z:g≠bs:=λq=>by have a:=h.seen;have b:=h.Vv;unfold eQ at a b;rw[q,b] at a;injection a with a;injection a with _ a;revert a;decide
 have m:g≠k:=λq=>by have a:=h.seen;have b:=h.row;unfold eQ at a b;rw[q,b] at a;injection a with a;injection a with _ a;revert a;decide
 have A:bs≠k:=λq=>by have a:=h.Vv;have b:=h.row;unfold eQ at a b;rw[q,b] at a;injection a with a;injection a with _ a;revert a;decide
 have o:=h.row.ub (p:=(eJ g x)) (nW m) (fz true);have d1:=h.Vv.ub (p:=(eJ g x)) (nW z) (fz true);have i:(w.setCell (eJ g x) (fz true)).ownsRow u 3 1 v out.length (ints (eM out)):=il h.or.own h.seen (by decide) _;have B:=(e.eH f).grown d (jX (e.own i) (e.eH f) (by decide));have r:=(e.eH o).grown d (jX (e.own i) (e.eH o) (by decide));have d2:=(e.eH d1).grown d (jX (e.own i) (e.eH d1) (by decide));have C:(W.setCell ⟨k,0,none⟩ y).ownsRow u.heap.size 3 1 y (out.length+1) (ints (eM out)++[.int .i64 x]):=il l.own r (by decide) _;refine⟨⟨?_,(fi.set W k 0 y).ext l.ext (λH D=>by subst D;exact h.ob)⟩,B.ub m _,by simpa using r.set 0 y,d2.ub A _, ?_, ?_,h.og,h.ob⟩
 ·rw[fT,iJ,mI];simpa[eM,ints] using C
 ·exact kF.2 ⟨h.nd,by simp,λa E b s q=>t (by simp only[fF] at s;subst s;subst q;exact E)⟩
 ·intro F c;rcases gu.1 c with c|c
  ·exact h.lt F c
  ·simp only[fF] at c;omega
theorem sQ.apart{n:Nat}{out:fe}(h:sQ w v k m i n x out):m≠i:=λq=>by have a:=h.seen;have b:=h.row;unfold eQ at a b;rw[q,b] at a;injection a with a;injection a with _ a;revert a;decide
theorem sQ.Sr{out:fe}(h:sQ w v n k m i x out)(a:Nat)(b:eS):OR w (v.setCell (eJ k a) b) 3 1 x out (ints (eM out)):=
 ⟨il h.or.own h.seen (by decide) _,(fi.set v k a b).ext h.or.ext (λd c=>by subst c;exact h.og)⟩
theorem sQ.putRow{w w':eI}{g:Nat}{out:fe}(h:sQ v w n g k m x out)(a:Nat){b:eS}{c:Obj}(f:((w.setCell (eJ g a) b).alloc c).grownBy w' x.ownBlock):eQ w' k 23 #[x]:=by have d:=(h.row.ub (p:=(eJ g a)) (nW h.apart) b);exact(d.alloc c).grown f (jX (h.Sr a b).own d (by decide))
def Tl(w0:eI)(bs g bo n:Nat)(out:fe)(e:Ending)(w':eI):Prop:=e=fH (ij #[])/\∃v,sQ w0 w' bs g bo n v out
theorem EI(m w:eI)(n i o j:Nat)(f:eS)(out:fe)(h:sQ m w n i o j f out)(X:j<=60)(a:fe)(x:∀b∈a,b<j)(Y:a.length<=200)(y:fE)(z H:Nat)(I:a.length=z)(A:Rd m y (ints (eM a))):
 Calls prog 322 #[.slice y z H,fw n,fw o] w (Tl m n i o j (jN a out)):=by
 have J:=eD h;have K:=eD x;have L:=eD A;clear h x A;subst I;go_in;go_wp2;go_loopw [8] (λs wr=>∃c:Nat,c<=a.length/\s=eE c/\∃f,sQ m wr n i o j f (jN (a.take c) out)) (λs _=>a.length- (intOf s).toNat)
 case atStart=>exact⟨0,by omega,rfl,f,J⟩
 case round=>
  obtain⟨c,Z,rfl,f,B⟩:=hrel;have d:=eD B;clear B;by_cases t:c<a.length
  ·obtain⟨b2,ad,rfl,M,N⟩:=ja (d.or.ext.rd L) t;have C:=K _ (eU t);have D:Hid (jN (a.take (c+1)) out=if a[c]∈jN (a.take c) out then jN (a.take c) out else jN (a.take c) out++[a[c]]):=eD (jR _ _ _ t);generalize a[c]=b at*;generalize jN (a.take c) out=E at*;have ae:=d.len;have O:=d.Vv.ce 0 (fN i j j);have P:=d.row.ce 0 f;have u:=d.seen.cell b (uS C);have f3:=d.seen.frozen b;by_cases k:b∈E
   ·have l:=jU k;have g:=D.out;rw[fW k] at g;have g:=eD g;rw[l] at u;clear k l;go_wp2;go_roundw
    case rel=>exact⟨c+1,by omega,by go_num,f,by rw[g];exact d⟩
    case measure=>simp[intOf];omega
   ·have l:=kD k;have g:=D.out;rw[fG k] at g;have g:=eD g;rw[l] at u;have Q:=eD k;have F:=d.row.ub (p:=(eJ i b)) (nW d.apart) (fz true);have R:=F.ce 0 f;clear k l F;obtain⟨S,T,rfl⟩:=d.or.mb;have U:Hid (Rd ((wr.setCell (eJ i b) (fz true)).alloc (.cells #[eE b] 3)) (some (eJ wr 0)) [eE b]):=eD (by simpa using ip (wr.setCell (eJ i b) (fz true)) #[eE b] 3);have V:=eD ((d.Sr b (fz true)).to (eF.alloc _ (.cells #[eE b] 3)));go_wp2_with (at_builtin;go_loud(refine lZ rfl _ _ rfl V rfl (some (eJ wr 0)) 1 [eE b] 1 rfl rfl U (by simp[Value.oneCell']) (by omega) ?_))
    intro v' w4 v r _;obtain⟨A9,c9,rfl⟩:=v.mb;have G:=d.put C Q (eF.alloc _ _) v r;have W:=eD G;have fr:=(d.putRow b r).frozen 0;have cr:=(d.putRow b r).ce 0 (.slice S E.length T);clear G v r O P u f3 R N M;go_wp2;go_roundw
    case rel=>exact⟨c+1,by omega,by go_num,_,by rw[g];exact W⟩
    case measure=>simp[intOf];omega
  ·obtain rfl:c=a.length:=by omega
   go_wp2;go_end0
   exact⟨rfl,f,by simpa using d.out⟩
end
section
theorem Ku:(prog.info? 4).map (λa=>(a.zero,a.size,a.bytes))=some (some (.bool false),1,1):=by kernel_rfl
theorem xt(a:Nat)(l:a<=1000)(b:eI):(Instr.makeSlice 175 (eE (a:Nat)) (eE (a:Nat))).run prog b=.ok (fN b a a) (b.alloc (eN (jY a []) 4)):=by
 obtain⟨d,f,g,i,j⟩:=info_parts Ku;have c:=yf (P:=prog) b 175 4 d (fz false) underlying175 f g .i64 .i64 a a (by omega) (by omega) (by rw[j];omega) (by omega);simp only[uv] at c;have k:jY a []=madeCells #[fz false] a:=by apply Mr.1;rw[wI];simp[jY,List.map_const']
 rw[c,i,qP,k];rfl
def Ss(w:eI)(out:fe)(e:Ending)(w':eI):Prop:=∃v',e=fH (ij #[v',eE 0])/\w'.ownsRow w 3 1 v' out (ints (eM out))/\eF w w'
def EJ(es:List Ed)(roots:fe)(w:eI)(e:Ending)(w':eI):Prop:=∃out,C' (mQ es) roots out out.length/\out.Nodup/\(∀x∈out,x<es.length)/\Ss w out e w'
section
variable (es:List Ed) (A:fE) (c:Nat) (w:eI)
theorem wQ(l:nF w A es)(f:G1 es)(a:fe)(m:∀g∈a,g<es.length)(B:a.length<=200)(j:fE)(n o:Nat)(C:a.length=n)(p:Rd w j (ints (eM a))):
 Calls prog 258 #[.slice A es c,.slice j n o] w (EJ es a w):=by
 have O:=eD (EH es A c w l f a m B j n o C p);have D:=eD l;have E:=eD f;have P:=eD m;have Q:=eD p;have F:=f.iO;have R:=xt es.length (by omega);clear l f m p;subst C;go_in;go_wp2_with fail
 refine O.mono ?_;rintro e S ⟨rfl,rfl⟩;go_wp2_with fail
 have G:eF w (((w.alloc (.cells (jY es.length []) 4)).alloc (.cells #[fN w es.length es.length] 175)).alloc (.cells #[eW] 23)):=((eF.alloc _ _).trans (eF.alloc _ _)).trans (eF.alloc _ _);have H:=((eQ.new w 4 (jY es.length [])).alloc (.cells #[fN w es.length es.length] 175)).alloc (.cells #[eW] 23);have r:=(eQ.new (w.alloc (.cells (jY es.length []) 4)) 175 #[fN w es.length es.length]).alloc (.cells #[eW] 23);have s:=eQ.new ((w.alloc (.cells (jY es.length []) 4)).alloc (.cells #[fN w es.length es.length] 175)) 23 #[eW];simp only[fM] at r s;have T:Hid (sQ w _ (w.heap.size+1) w (w.heap.size+1+1) es.length (eW) []):=eD ⟨OR.nil G _ _,H,s,r,by simp,by simp,fJ _,by omega⟩;clear G H r s;refine(EI w _ _ _ _ es.length _ [] T F a P B j _ o rfl Q).mono ?_;rintro e S ⟨rfl,U,I⟩;have V:=eD I;have W:=eD (C'.start (mQ es) a);clear I R;generalize jN a []=X at*;go_wp2;go_loopw [9] (λt wr=>∃(b:Nat) (out:fe) (J:eS),b<=out.length/\t=eE b/\sQ w wr (w.heap.size+1) w (w.heap.size+1+1) es.length J out/\C' (mQ es) a out b) (λt _=>es.length- (intOf t).toNat)
 case atStart=>exact⟨0,X,U,by omega,rfl,V,W⟩
 case round=>
  obtain⟨b,out,J,f,rfl,i,K⟩:=hrel;have d:=eD i;have L:=eD K;obtain⟨Y,Z,rfl⟩:=i.or.mb;have c1:=i.row.ce 0 (.slice Y out.length Z);have ah:=i.len;clear i K;by_cases u:b<out.length
  ·obtain⟨bo,oo,rfl,ai,aj⟩:=ja (d.or.rd rfl) u;have v:=d.lt _ (eU u);have x:=eD (L.step u);generalize out[b]=g at*;obtain⟨be,oe,rfl,ak,ad,ae⟩:=(D.ext d.or.ext).at v;have k:=E.lt g;have M:=E.Bj g;have y:=vR v;rw[y] at k M;rw[y] at x;have z:=D.each _ (eU v);generalize es[g]=en at*;obtain⟨eA,ec,el⟩:=en;simp only[Ed.cell] at ad z k M x;have af:=eD (EI w wr _ _ _ es.length _ out d F el k (by omega) eA _ ec rfl z);clear ae z k y;go_wp2_with fail
   refine af.mono ?_;rintro e w3 ⟨rfl,v3,N⟩;have ag:=eD N;have al:out.length<=(jN el out).length:=by obtain⟨am,ht⟩:=uD el out;rw[ht];simp
   clear N;go_wp2;go_roundw
   case rel=>exact⟨b+1,jN el out,v3,by omega,by go_num,ag,x⟩
   case measure=>simp[intOf];omega
  ·obtain rfl:b=out.length:=by omega
   go_wp2;go_ret2
   exact⟨out,L,d.nd,d.lt,_,rfl,d.or.own,d.or.ext⟩
end
end
section
def Bn(es:List Ed)(roots:fe)(w:eI)(e:Ending)(w':eI):Prop:=∃out g,C' (mQ es) roots out out.length/\e=fH (ij #[fN g es es.length,eE 0])/\eQ w' g 4 (jY es out)/\w.heap.size<=g/\eF w w'
section
variable (es:List Ed) (A:fE) (c:Nat) (w:eI)
theorem Kv(p:nF w A es)(k:G1 es)(i:fe)(r:∀g∈i,g<es.length)(v:i.length<=200)(l:fE)(m s:Nat)(t:i.length=m)(u:Rd w l (ints (eM i))):
 Calls prog 191 #[.slice A es c,.slice l m s] w (Bn es i w):=by
 have x:=eD (wQ es A c w p k i r v l m s t u);have K:=k.iO;have L:=xt es.length (by omega);clear p k r u;subst t;go_in;go_wp2_with fail
 refine x.mono ?_;rintro e d ⟨out,a,y,j,M,rfl,n,f⟩;have N:=iM out y j;obtain⟨O,P,rfl⟩:=eR n;have z:=eD (Rd.fC n);have B:=eD a;have C:=eD j;have D:=eD f;have E:=f.size;clear a j n f;go_wp2;go_loopw [25] (λo wr=>∃b:Nat,b<=out.length/\o=eE b/\eQ wr d 4 (jY es.length (out.take b))/\eF d wr) (λo _=>out.length- (intOf o).toNat)
 case atStart=>exact⟨0,by omega,rfl,by simpa using eQ.new d 4 (jY es.length []),eF.alloc _ _⟩
 case round=>
  obtain⟨b,k,rfl,a,f⟩:=hrel;by_cases j:b<out.length
  ·obtain⟨Q,R,rfl,S,T⟩:=ja (f.rd z) j;have F:=C _ (eU j);have G:=eD (iz j);generalize out[b]=g at*;have U:=a.cell g (uS F);have f3:=a.frozen g;have H:Hid (eQ (wr.setCell (eJ d g) (fz true)) d 4 (jY es.length (out.take (b+1)))):=eD (by rw[G,<-vS];exact a.set g _);have I:Hid (eF d (wr.setCell (eJ d g) (fz true))):=eD ((fi.set wr d g _).ext f (λb k=>by subst k;exact fJ _));clear a f;go_wp2;go_roundw
   case rel=>exact⟨b+1,by omega,by go_num,H,I⟩
   case measure=>simp[intOf];omega
  ·obtain rfl:b=out.length:=by omega
   rw[iT] at a;have J:Hid (Bn es i w (fH (ij #[fN d es.length es.length,eE 0])) wr):=eD ⟨out,_,B,rfl,a,E,D.trans f⟩;clear a f;go_wp2;go_ret2
   exact J
end
def tQ(d:Nat)(s:List Bool×fe):Prop:=s.2.length+d<=s.1.count true
theorem count_le(a:List Bool):a.count true<=a.length:=List.count_le_length
theorem Bo{a:List Bool}(h:n<a.length)(b:a[n]=false):(a.set n true).count true=a.count true+1:=by rw[List.count_set h,b];simp
theorem vT(d:Nat->fe):∀(b f:Nat) (a:List Bool×fe),(ia d b f a).1.length=a.1.length
 |0,_,_=>rfl
 |b+1,f,a=>by
  have g:∀(c:fe) (a:List Bool×fe),(c.foldl (λa i=>ia d b i a) a).1.length=a.1.length:=by
   intro c;induction c with
   |nil=>intro a;rfl
   |cons k c j=>intro a;rw[nK,j,vT d b]
  unfold ia;split
  ·rfl
  ·simp only[g,nZ]
theorem Bp(f:Nat->fe):∀(j d:Nat) (a:List Bool×fe) (b:Nat),(∀k,∀c∈f k,c<a.1.length)->d<a.1.length->tQ b a->tQ b (ia f j d a)
 |0,_,_,_,_,_,h=>h
 |j+1,d,a,b,g,m,h=>by
  have p:∀(i:fe) (a:List Bool×fe) (b:Nat),(∀k,∀c∈f k,c<a.1.length)->(∀c∈i,c<a.1.length)->tQ b a->tQ b (i.foldl (λa r=>ia f j r a) a):=by
   intro i;induction i with
   |nil=>intro a b _ _ h;exact h
   |cons n i s=>intro a b g o h;rw[nK];refine s _ b (by rw[vT];exact g) (by rw[vT];exact λc l=>o c (gD _ l)) (Bp f j n a b g (o n (by simp)) h)
  unfold ia;split
  ·exact h
  ·next t=>
   have u:a.1[d]=false:=by simpa[jx,m] using t
   have v:tQ (b+1) (a.1.set d true,a.2):=by unfold tQ at h ⊢;simp only;rw[Bo m u];omega
   have w:=p (f d) _ (b+1) (by simpa using g) (by simpa using λc l=>g d c l) v;unfold tQ at w ⊢;simp only[fT,ti];omega
def wR(s:List Bool):kx:=(s.map Value.bool).toArray
theorem NQ{a:List Bool}(h:n<a.length):(wR a)[n]? =some (fz (a.getD n true)):=by simp[wR,jx,h]
theorem Kw{a:List Bool}{b:Bool}:(wR a).setIfInBounds n (fz b)=wR (a.set n b):=by simp[wR,qQ]
theorem G3(a:Nat)(out:fe):jY a out=wR ((List.range a).map λb=>decide (b∈out)):=by simp[jY,wR]
structure FZ(w0 w:eI)(p g n:Nat)(A:fE)(c:Nat)(v:eS)(s:List Bool×fe):Prop where
 or:OR w0 w 3 1 v s.2.length (ints (eM s.2))
 seen:eQ w g 4 (wR s.1)
 st:eQ w p 505 #[.slice A n c,.slice (some ⟨g,0,none⟩) n n,v]
 len:s.1.length=n
 og:w0.heap.size<=g
 op:w0.heap.size<=p
section
variable {w0 w w':eI} {p g n c:Nat} {A:fE} {v v':eS} {s:List Bool×fe} {x:Nat}
theorem FZ.apart(h:FZ w0 w p g n A c v s):g≠p:=λq=>by have a:=h.seen;have b:=h.st;unfold eQ at a b;rw[q,b] at a;injection a with a;injection a with _ a;revert a;decide
theorem FZ.mark(h:FZ w0 w p g n A c v s)(a:Nat):FZ w0 (w.setCell (eJ g a) (fz true)) p g n A c v (s.1.set a true,s.2):=
 ⟨⟨il h.or.own h.seen (by decide) _,(fi.set w g a _).ext h.or.ext (λd b=>by subst b;exact h.og)⟩,by rw[<-Kw];exact h.seen.set a _,h.st.ub (nW h.apart) _,by simpa using h.len,h.og,h.op⟩
theorem FZ.left(h:FZ w0 w p g n A c v s){a:eI}(e:eF w a)(b:OR w0 w' 3 1 v' (s.2.length+1) (ints (eM s.2)++[.int .i64 x]))(d:a.grownBy w' v.ownBlock):FZ w0 (w'.setCell ⟨p,2,none⟩ v') p g n A c v' (s.1,s.2++[x]):=by have i:=(e.eH h.seen).grown d (jX (e.own h.or.own) (e.eH h.seen) (by decide));have f:=(e.eH h.st).grown d (jX (e.own h.or.own) (e.eH h.st) (by decide));have j:(w'.setCell ⟨p,2,none⟩ v').ownsRow w0.heap.size 3 1 v' (s.2.length+1) (ints (eM s.2)++[.int .i64 x]):=il b.own f (by decide) _;refine⟨⟨?_,(fi.set w' p 2 v').ext b.ext (λl k=>by subst k;exact h.op)⟩,i.ub h.apart _,by simpa using f.set 2 v',h.len,h.og,h.op⟩;rw[fT,iJ,mI];simpa[eM,ints] using j
theorem FZ.Rf(h:FZ w0 w p g n A c v s){a:eI}(e:eF w a)(b:a.grownBy w' v.ownBlock):eQ w' p 505 #[.slice A n c,fN g n n,v]:=
 (e.eH h.st).grown b (jX (e.own h.or.own) (e.eH h.st) (by decide))
end
def UF(w0:eI)(p g n:Nat)(A:fE)(c:Nat)(s:List Bool×fe)(e:Ending)(w':eI):Prop:=e=fH (ij #[])/\∃v,FZ w0 w' p g n A c v s
end
theorem Kx(c:List Ed)(k:G1 c)(s:eI)(A:fE)(B p t:Nat)(u:nF s A c)(C:Nat->Nat)(Q:∀a,a<c.length->∀d∈mQ c a,C d<C a):
 ∀(g a:Nat) (b:List Bool×fe) (l:eS) (v:eI),a<c.length->C a<g->FZ s v p t c A B l b->tQ 0 b->
 Calls prog 328 #[fw p,eE a] v (UF s p t c A B (ia (mQ c) g a b)):=by
 intro g;induction g with
 |zero=>intro a b l v _ h;omega
 |succ g D=>
  intro a b l v r hf j E;have av:=k.iO;have i:=eD j;have F:a<b.1.length:=by rw[j.len];exact r
  have c1:=j.st.ce 1 (fN t c.length c.length);have G:=j.seen.cell a (NQ F);by_cases n:b.1.getD a true=true
  ·have o:Hid (ia (mQ c) (g+1) a b=b):=eD (by unfold ia;rw[fW n]);rw[n] at G;clear n E j D;go_in;go_wp2;go_end0
   exact⟨rfl,l,by rw[o];exact i⟩
  ·have H:b.1.getD a true=false:=by simpa using n
   have R:b.1[a]=false:=by simpa[jx,F] using H
   have o:Hid (ia (mQ c) (g+1) a b=(((mQ c a).foldl (λb m=>ia (mQ c) g m b) (b.1.set a true,b.2)).1,((mQ c a).foldl (λb m=>ia (mQ c) g m b) (b.1.set a true,b.2)).2++[a])):=eD (by rw[ia];rw[fG n]);rw[H] at G;have w:=j.mark a;have S:tQ 1 (b.1.set a true,b.2):=by unfold tQ at E ⊢;simp only;rw[Bo F R];omega
   generalize(b.1.set a true,b.2)=I at*;have f3:=j.seen.frozen a;have af:=eD w;have ag:=eD S;have HE:=eD u;have HK:=eD k;have T:=eD (Q a r);have ah:=eD D;obtain⟨be,oe,rfl,ai,U,aj⟩:=(u.ext w.or.ext).at r;have J:=u.each _ (eU r);have x:=k.lt a;have V:=k.Bj a;have y:=vR r;rw[y] at x V o;have K:=T.out;rw[y] at K;have W:=eD K;have ak:=eD y;generalize al:c[a]=en at*;clear al;obtain⟨eA,ec,el⟩:=en;simp only[Ed.cell] at U J x V o W;have am:=eD J;have HL:=eD x;have d0:=w.st.cell 0 rfl;clear j E n H R w S u k Q D aj J x y T ak K;go_in;go_wp2;clear c1 G f3 U d0 ai i;obtain⟨f,X,j,Y⟩:∃f:Nat->List Bool×fe,f 0=I/\(∀d (k:d<el.length),f (d+1)=ia (mQ c) g el[d] (f d))/\el.foldl (λb m=>ia (mQ c) g m b) I=f el.length:=
    ⟨λan=>(el.take an).foldl (λb m=>ia (mQ c) g m b) I,rfl,λd k=>jR _ _ _ k,by simp only[iT]⟩
   rw[Y] at o;have Z:=eD X;have ao:=eD j;clear X j Y;go_loopw [27] (λa wr=>∃(d:Nat) (l:eS),d<=el.length/\a=eE d/\FZ s wr p t c.length (some (eJ be oe)) B l (f d)/\tQ 1 (f d)) (λa _=>el.length- (intOf a).toNat)
   case atStart=>exact⟨0,l,by omega,rfl,by rw[Z];exact af,by rw[Z];exact ag⟩
   case round=>
    obtain⟨d,l,k,rfl,hs,hc⟩:=hrel;have i:=eD hs;have L:=eD hc;clear hs hc;by_cases z:d<el.length
    ·obtain⟨b2,o2,rfl,aw,ax⟩:=ja (i.or.ext.rd am) z;have hx:=HL _ (eU z);have ay:=W _ (eU z);have ad:=eD (ao d z);generalize el[d]=ae at*;have ap:=eD (ah.out ae (f d) l wr hx (by omega) i.out (by have:=L.out;unfold tQ at this ⊢;omega));have aq:Hid (tQ 1 (f (d+1))):=eD (by rw[ad];exact Bp _ g ae (f d) 1 (by rw[i.len];exact HK.lt) (by rw[i.len];exact hx) L)
     go_wp2_with fail
     refine ap.mono ?_;rintro e w3 ⟨rfl,v3,M⟩;rw[<-ad] at M;have ar:=eD M;clear M;go_wp2;go_roundw
     case rel=>exact⟨d+1,v3,by omega,by go_num,ar,aq⟩
     case measure=>simp[intOf];omega
    ·obtain rfl:d=el.length:=by omega
     obtain⟨vA,vc,rfl⟩:=i.or.mb;have c2:=i.st.ce 2 (.slice vA (f el.length).2.length vc);have az:(f el.length).2.length<=60:=by have h1:=L.out;have h2:=count_le (f el.length).1;have h3:=i.len;unfold tQ at h1;omega
     go_wp2_with (at_builtin;go_loud(refine MQ rfl _ _ rfl i.or rfl #[eE a] rfl rfl (by simp[Value.oneCell']) (by omega) ?_))
     intro v' w4 N O _;obtain⟨A9,c9,rfl⟩:=N.mb;have au:=eD (i.left (eF.alloc _ _) N O);have P:=i.Rf (eF.alloc _ _) O;have fr:=P.frozen 2;have cr:=P.ce 2 (.slice vA (f el.length).2.length vc);clear N O c2 P;go_wp2;go_end0
     exact⟨rfl,_,by rw[o];exact au⟩
theorem Tm(a:eI)(b:Nat):OR a (a.alloc (eN #[eE b] 3)) 3 1 (fN a 1 1) 1 (ints (eM [b])):=
 ⟨AI a #[.int .i64 b] 1 (fJ _) (by unfold maxLen;omega) rfl,eF.alloc _ _⟩
theorem FZ.start(a b:eI)(n:Nat)(A:fE)(c p d:Nat)(done:fe)(f:eF a b)(g:eQ b d 4 (jY n done))(j:eQ b p 505 #[.slice A n c,fN d n n,eW])(k:a.heap.size<=d)(l:a.heap.size<=p):
 FZ a b p d n A c (eW) ((List.range n).map λi=>decide (i∈done),[]):=
 ⟨OR.nil f _ _,by rw[<-G3];exact g,j,by simp,k,l⟩
theorem NR(es:List Ed)(i:G1 es)(f:eI)(k:fE)(l:Nat)(r:nF f k es)(s:Nat->Nat)(B:∀c,c<es.length->∀d∈mQ es c,s d<s c)(x c:Nat)(C:c<es.length)(M:s c<x)(a:fe)(y:∀g∈a,g<es.length)(ad:a.length<=100)(m:fE)(D t:Nat)(N:a.length=D)(u:Rd f m (ints (eM a))):
 Calls prog 267 #[.slice k es l,eE c,.slice m D t] f (Ss f (ia (mQ es) x c ((List.range es).map λO=>decide (O∈a),[])).2):=by
 have E:=eD (λf m t r u=>EH es k l f r i (c::a) (by simp only[fm];rintro g (rfl|h);exact C;exact y g h) (by simp;omega) m (1+a.length) t (by simp;omega) u);have F:=eD r;have P:=eD i;have Q:=eD y;have G:=eD u;have H:=eD B;have ae:=i.iO;have af:=xt es.length (by omega);clear r i y u B;subst N;go_in;go_wp2_with (at_builtin;go_loud(refine lZ rfl _ _ rfl (Tm f c) rfl m t (ints (eM a)) a.length rfl (by simp[ints,eM]) ((eF.alloc _ _).rd G) (jP _) (by omega) ?_))
 intro v1 b z R _;obtain⟨S,T,rfl⟩:=z.mb;have v:=eD z;clear z R;go_wp2_with fail
 refine(E b S T (F.ext v.ext) (by have:=v.rd rfl;simpa[eM,ints] using this)).mono ?_;rintro e w2 ⟨rfl,rfl⟩;go_wp2;have I:=v.ext.size;go_loopw [26] (λc wr=>∃d:Nat,d<=a.length/\c=eE d/\eQ wr b 4 (jY es.length (a.take d))/\eQ wr (b.heap.size+1) 505 #[.slice k es.length l,fN b es.length es.length,eW]/\eF f wr) (λc _=>a.length- (intOf c).toNat)
 case atStart=>exact⟨0,by omega,rfl,by simpa using(eQ.new b 4 (jY es.length [])).alloc _,by simpa using eQ.new (b.alloc (.cells (jY es.length []) 4)) 505 _,(v.ext.trans (eF.alloc _ _)).trans (eF.alloc _ _)⟩
 case round=>
  obtain⟨d,i,rfl,j,n,o⟩:=hrel;by_cases A:d<a.length
  ·obtain⟨b2,o2,rfl,ag,ah⟩:=ja (o.rd G) A;have U:=Q _ (eU A);have V:=eD (iz A);generalize a[d]=g at*;have c3:=j.cell g (uS U);have f3:=j.frozen g;have cp:=n.ce 1 (fN b es.length es.length);have W:Hid (eQ (wr.setCell (eJ b g) (fz true)) b 4 (jY es.length (a.take (d+1)))):=eD (by rw[V,<-vS];exact j.set g _);have X:=eD (n.ub (p:=(eJ b g)) (by simp) (fz true));have Y:Hid (eF f (wr.setCell (eJ b g) (fz true))):=eD ((fi.set wr b g _).ext o (λd i=>by subst i;exact I));clear j o n;go_wp2;go_roundw
   case rel=>exact⟨d+1,by omega,by go_num,W,X,Y⟩
   case measure=>simp[intOf];omega
  ·obtain rfl:d=a.length:=by omega
   rw[iT] at j;have J:=eD (FZ.start f wr es.length k l (b.heap.size+1) b a o j n I (by omega));have K:=eD (Kx es P f k l (b.heap.size+1) b F s H x c _ _ wr C M J (by simp[tQ]));clear j o n;go_wp2_with fail
   refine K.mono ?_;rintro e w3 ⟨rfl,v3,w⟩;obtain⟨Z,vc,rfl⟩:=w.or.mb;have c2:=w.st.ce 2 (.slice Z _ vc);have L:=eD w;clear w J K E H;go_wp2;go_ret2
   exact⟨_,rfl,L.or.own,L.or.ext⟩
section
theorem rZ(b:Nat->Bool)(a:Nat):(List.range (a+1)).filter b=(List.range a).filter b++if b a then[a] else[]:=by rw[un,Dy,Dz,List.filter_nil]
theorem ki(b:Nat->Bool)(a:Nat):((List.range a).filter b).length<=a:=eY (n8 _ _) (by simp)
def nt(os:List OV)(i:Nat):Bool:=match os[i]? with|some o=>decide (0<o.gE)|none=>false
def r'(os:List OV):fe:=(List.range os).filter (nt os)
theorem yW{os:List OV}{es:List Ed}(k:es.length=os.length)(i:∀b,mQ es b=zL (os.map OV.ob) b)(p:os.length<=60)(l:∀d∈os,d.eP.length<=60)(m:∀d∈os,∀f∈d.eP,∃b,∃j:b<os.length,os[b].id=f):G1 es:=by
 refine⟨λg r a=> ?_,by omega,λg=> ?_⟩
 ·rw[i] at a;unfold zL at a;by_cases c:g<os.length
  ·rw[gg (by simpa using c)] at a;simp only[jy,OV.ob,fy] at a;obtain⟨f,n,rfl⟩:=a;obtain⟨b,j,o⟩:=m _ (eU c) f n;rw[k];exact(tP j o).2
  ·rw[tB (by simp;omega)] at a;cases a
 ·rw[i];unfold zL;by_cases c:g<os.length
  ·rw[gg (by simpa using c)];simp only[jy,OV.ob,gW];exact l _ (eU c)
  ·rw[tB (by simp;omega)];simp
section
variable {w:eI} {B p:Nat} {s:LS} {ex:List (eS×fS)}
def NT(w:eI)(os:List OV)(i:Nat)(e:Ending)(w':eI):Prop:=∃out,C' (zL (os.map OV.ob)) [i] out out.length/\out.Nodup/\(∀x∈out,x<os.length)/\pu w (gw os out) e w'
theorem EK(h:it w B p s ex)(O:s.os.length<=60)(b:∀c∈s.os,c.eP.length<=60)(m:∀c∈s.os,∀x∈c.eP,∃i,∃z:i<s.os.length,s.os[i].id=x){i:Nat}(z:i<s.os.length)(P:∀j (hj:j<i),s.os[j].id≠s.os[i].id):
 Calls prog 178 #[fw p,eE (s.os[i].id:Nat)] w (NT w s.os i):=by
 have A:=eD (yU h (by omega) (λc d=>by have:=b c d;omega) m);have C:=eD (λn (f:eF w n)=>kv (h.ext f) (by omega) s.os[i].id);rw[mv z rfl P] at C;have Q:=eD (λn (f:eF w n) R S b l T U V o=>Bl (h.ext f) R S b l T U V o);have W:=eD (λes a g=>yW (os:=s.os) (es:=es) a g O b m);clear h b m;generalize s.os[i].id=id at*;go_in;go_wp2_with fail
 refine A.mono ?_;rintro e X ⟨D,Y,es,a,g,rfl,E,F⟩;have G:=W es a g;have H:=funext g;have Z:=eD E;have I:=eD F;have J:=eD (λw (hE:nF w D es) (l:fE) (o:Rd w l (ints (eM [i])))=>wQ es D Y w hE G [i] (by intro x f;simp only[fm,gp,gq] at f;omega) (by simp) l 1 1 rfl o);rw[a] at J;have HG:=eD H;clear A E F G H g;go_wp2_with fail
 refine(C X I).mono ?_;rintro e r ⟨rfl,t⟩;have ad:=eD (I.trans t);have ae:=eD (Z.ext t);clear t;go_wp2_with fail
 refine(J (r.alloc (eN #[eE (i:Nat)] 3)) (ae.ext (eF.alloc _ _)) (some (eJ r 0)) ?_).mono ?_
 ·exact ip r #[eE (i:Nat)] 3
 rintro e w4 ⟨out,u,v,k,ak,rfl,d,K⟩;obtain⟨A4,c4,rfl⟩:=eR d;have y:=eD (ad.trans ((eF.alloc _ _).trans K));have af:=iM out v k;have ag:=eD (Q w4 y out (by rw[<-a];exact k) (by omega) A4 out.length c4 rfl (Rd.fC d));rw[HG] at u;have HB:=eD u;have ah:=eD v;rw[a] at k;have ai:=eD k;clear u v k d K af;go_wp2_with fail
 refine ag.mono ?_;rintro e w5 ⟨L,rfl,M,N⟩;have aj:Hid (NT w s.os i (fH L) w5):=eD ⟨out,HB,ah,ai,L,rfl,fq M y.size,y.trans N⟩;clear M N;go_wp2;go_ret;exact aj
theorem Ky(h:it w B p s ex)(hl:s.os.length<=60)(k:∀b∈s.os,b.eP.length<=60)(v:∀b∈s.os,∀o∈b.eP,∃i,∃E:i<s.os.length,s.os[i].id=o){i:Nat}(E:i<s.os.length)(hn:∀j (hj:j<i),s.os[j].id≠s.os[i].id)(r:Nat->Nat)(F:∀i,i<s.os.length->∀a∈zL (s.os.map OV.ob) i,r a<r i)(g:Nat)(hf:r i<g)(G:((ia (zL (s.os.map OV.ob)) g i ((List.range s.os).map λj=>decide (j∈r' s.os),[])).2).length<=1000)(H:∀o∈(ia (zL (s.os.map OV.ob)) g i ((List.range s.os).map λj=>decide (j∈r' s.os),[])).2,o<s.os.length):
 Calls prog 188 #[fw p,eE (s.os[i].id:Nat)] w (pu w (gw s.os (ia (zL (s.os.map OV.ob)) g i ((List.range s.os).map λj=>decide (j∈r' s.os),[])).2)):=by
 have I:=eD (λl (c:eF w l)=>yU (h.ext c) (by omega) (λb t=>by have:=k b t;omega) v);have J:=eD (λl (c:eF w l)=>kv (h.ext c) (by omega) s.os[i].id);rw[mv E rfl hn] at J;have HN:=eD (λl (c:eF w l) ah ai k aj dn dc ak x=>Bl (h.ext c) ah ai k aj dn dc ak x);have al:=eD (λes m d=>yW (os:=s.os) (es:=es) m d hl k v);have am:=eD h.Kq;have an:=eD (h.eH.ce 6 (.slice s.oA s.os.length s.oc));have HR:=eD F;have ao:=eD H;have ap:=eD G;clear h k v F H G;generalize K:(ia (zL (s.os.map OV.ob)) g i ((List.range s.os.length).map λj=>decide (j∈r' s.os),[])).2=y at*;have aq:=eD K;clear K;generalize s.os[i].id=id at*;go_in;have c6:=an.out;go_wp2;clear c6;go_loopw [15,5] (λi L wr=>∃a:Nat,a<=s.os.length/\i=eE a/\OR w wr 3 1 L ((List.range a).filter (nt s.os)).length (ints (eM ((List.range a).filter (nt s.os))))) (λi _ _=>s.os.length- (intOf i).toNat)
 case atStart=>exact⟨0,eX _,rfl,OR.nil (eF.refl w) _ _⟩
 case round=>
  obtain⟨a,hk,rfl,t⟩:=hrel;have f:=eD t;clear t;by_cases M:a<s.os.length
  ·obtain⟨aG,aH,hA,hb,N,ar⟩:=jW am M;have O:=eD (N wr f.ext);have P:nt s.os a=decide (0<s.os[a].gE):=by unfold nt;rw[gg M]
   have n:=eD (rZ (nt s.os) a);rw[P] at n;have au:=ki (nt s.os) a;rw[hA];clear N ar P;generalize s.os[a]=b at*;have Q:=eQ.new wr 177 tw;go_wp2_with (first|(refine eK rfl 177 (.tmp 18) rfl _ rfl (xd b) ?_ ?_)|(refine eG rfl 177 (.tmp 7) (.tmp 19) rfl wr rfl b.eL rfl Q (j4 _) (by rw[gx];exact iR) (by rw[gx];rfl) ?_))
   ·exact O
   intro w1 R S;have T:=eD ((fi.grown S).ext (eF.alloc _ _));have av:=R.ce 25 (eE (b.gE:Nat));clear S Q O R;by_cases U:0<b.gE
   ·have hd:decide ((0:Int)<((b.gE:Nat):Int))=true:=by rw[jh];omega
    rw[jU U,fW rfl] at n;go_wp2_with (at_builtin;go_loud(refine lZ rfl _ _ rfl (f.to (T.trans (eF.alloc _ _))) rfl (some (eJ _ 0)) 1 [eE a] 1 rfl rfl (ip _ #[eE (a:Nat)] _) (by simp[Value.oneCell']) (by omega) ?_))
    intro v4 V W g4 _;have aw:=eD W;clear W g4 av;go_wp2;go_roundw
    case rel=>exact⟨a+1,by omega,by go_num,by rw[n,iJ,mI,fT];exact aw⟩
    case measure=>simp[intOf];omega
   ·have hd:decide ((0:Int)<((b.gE:Nat):Int))=false:=by rw[DO];omega
    rw[kD U,fG (by decide)] at n;go_wp2;go_roundw
    case rel=>exact⟨a+1,by omega,by go_num,by rw[n,ox];exact f.to T⟩
    case measure=>simp[intOf];omega
  ·obtain rfl:a=s.os.length:=by omega
   have au:=ki (nt s.os) s.os.length;obtain⟨Ad,cd,d⟩:=f.mb;subst d;have ax:=eD (f.rd rfl);go_wp2_with fail
   refine(I wr f.ext).mono ?_;rintro e w2 ⟨X,ay,es,m,d,rfl,Y,z⟩;have Z:=al es m d;have A:=funext d;have ad:=eD (f.ext.trans z);have az:=eD Y;have aA:=eD (z.rd ax);have ae:=eD (λw (hE:nF w X es) x=>NR es Z w X ay hE r (by rw[A,m];exact HR) g i (by omega) hf (r' s.os) (by intro o c;simp only[r',jb,ll] at c;omega) (by unfold r';omega) Ad ((List.range s.os.length).filter (nt s.os)).length cd rfl x);rw[A,m,aq] at ae;clear I Y z Z A d;go_wp2_with fail
   refine(J w2 ad).mono ?_;rintro e w3 ⟨rfl,u⟩;have aB:=eD (ad.trans u);have aC:=eD (az.ext u);have aD:=eD (u.rd aA);clear u;go_wp2_with fail
   refine(ae w3 aC aD).mono ?_;rintro e V ⟨L,rfl,C,af⟩;obtain⟨A4,c4,rfl⟩:=eR C;have D:=eD (aB.trans af);have aE:=eD (HN V D y ao ap A4 y.length c4 rfl (Rd.fC C));clear C af;go_wp2_with fail
   refine aE.mono ?_;rintro e w5 ⟨v5,rfl,o5,ag⟩;have aF:Hid (pu w (gw s.os y) (fH v5) w5):=eD ⟨v5,rfl,fq o5 D.size,D.trans ag⟩;clear o5 ag;go_wp2;go_ret;exact aF
theorem NU(h:it w B p s ex)(G:s.os.length<=100):Calls prog 24 #[fw p] w (pu w (s.os.map OV.id)):=by
 have t:=eD h.Kq;have u:=eD (h.eH.ce 6 (.slice s.oA s.os.length s.oc));clear h;go_in;have v:=u.out;go_wp2;clear v;go_loopw [11,3] (λf b wr=>∃a:Nat,a<=s.os.length/\f=eE a/\OR w wr 3 1 b a (ints (eM ((s.os.map OV.id).take a)))) (λf _ _=>s.os.length- (intOf f).toNat)
 case atStart=>exact⟨0,eX _,rfl,OR.nil (eF.refl w) _ _⟩
 case round=>
  obtain⟨a,H,rfl,c⟩:=hrel;have g:=eD c;clear c;by_cases i:a<s.os.length
  ·obtain⟨I,J,x,K,j,y⟩:=jW t i;have k:=eD (j wr g.ext);have z:Hid ((s.os.map OV.id).take (a+1)=(s.os.map OV.id).take a++[s.os[a].id]):=eD (by rw[iz (by simpa using i),jy]);rw[x];clear j y;generalize s.os[a]=d at*;have l:=eQ.new wr 177 tw;go_wp2_with (first|(refine eK rfl 177 (.tmp 13) rfl _ rfl (xd d) ?_ ?_)|(refine eG rfl 177 (.tmp 5) (.tmp 14) rfl wr rfl d.eL rfl l (j4 _) (by rw[gx];exact iR) (by rw[gx];rfl) ?_))
   ·exact k
   intro L m n;have A:=eD ((fi.grown n).ext (eF.alloc _ _));have C:=m.ce 0 (eE (d.id:Nat));clear n l k m;go_wp2_with (at_builtin;go_loud(refine lZ rfl _ _ rfl (g.to (A.trans (eF.alloc _ _))) rfl (some (eJ _ 0)) 1 [eE d.id] 1 rfl rfl (ip _ #[eE (d.id:Nat)] _) (by simp[Value.oneCell']) (by omega) ?_))
   intro M N o D _;have E:=eD o;clear o D C;go_wp2;go_roundw
   case rel=>exact⟨a+1,by omega,by go_num,by rw[z,iJ,mI];exact E⟩
   case measure=>simp[intOf];omega
  ·obtain rfl:a=s.os.length:=by omega
   have F:Hid (∀b,OR w wr 3 1 b s.os.length (ints (eM ((s.os.map OV.id).take s.os.length)))->pu w (s.os.map OV.id) (fH b) wr):=eD (λb c=>by have r:=c.own;rw[show s.os.length=(s.os.map OV.id).length by simp,iT] at r;exact⟨b,rfl,r,c.ext⟩)
   go_wp2;go_ret;exact F _ g
theorem yX(h:it w B p s ex)(k:s.scope.length<=1000):Calls prog 22 #[fw p] w (pu w s.scope):=by
 have a:=h.ints.mem (p:=s.mz) (by simp[LS.rows]);simp only[LS.mz,fv] at a;have d:=eD (lE s.sA s.scope.length s.sc (ints (eM s.scope)) w (qd a) (by simp[ints,eM]) (Rd.fC a) (jP _) (by omega));have f:=h.eH.ce 7 (.slice s.sA s.scope.length s.sc);clear a h;go_in;go_wp2_with fail
 refine d.mono ?_;rintro e l ⟨g,rfl,b,c⟩;have i:=eD b;have j:=eD c;clear b c f;go_wp2;go_ret;exact⟨g,rfl,i,j⟩
end
end
