/- Part 12. -/
import Derived.Test.YtbikgdhbiebhcaaGreatDoorV11
set_option linter.unusedVariables false
set_option linter.unusedSimpArgs false
set_option maxRecDepth 100000
set_option maxHeartbeats 2000000
open Go.Value renaming int -> V, string -> U, slice -> Y, pointer -> Z, func -> φ, agg -> γ, bool -> β
open Go.IntKind renaming i64 -> I
open Option renaming some -> W, none -> O
open Go.Obj renaming cells -> J
open Go.Ending renaming returned -> ρ
open Go.Proofs.Tryz renaming prog -> π
open Nat renaming le_refl -> η
open And renaming intro -> θ
open Go.RowKit.Below renaming refl -> ζ
namespace Go.Proofs.YtbikgdhbiebhcaaGreatDoor
open Go.RowKit Tryz
section
attribute [local go_sem] ak
attribute [local go_sem] Oper.semAt_some
structure SqI(w:World)(b r ge oe deep:Nat)(TG:NS)(es:List Tp.En)(vs:List Tp.Tree)(t:Nat)(F:NS)(W:World):Prop where
 lt:∀k,F k->k < W.heap.size
 fr:∀k,F k->k=r\/k=ge\/b<=k
 fR:F r
 fG:F ge
 f4:F (b+4)
 nb:¬F b/\¬F (b+1)/\¬F (b+2)/\¬F (b+3)
 rd:yp W r ge (oe+3 * t) TG (es.drop t)
 row:∃dv cs KF,W.heap[b+4]? =some (J #[V I 1,U ⟨#[]⟩,V I 0,V I 0,U ⟨#[]⟩,Y O 0 0,dv] 78 (0,0))/\W.ownsRow (b+8) 78 7 dv t cs/\(∀k,dv.ownBlock=some k->F k)/\xU W KF (vs.take t) cs/\∀k,KF k->F k/\b+8<=k/\dv.ownBlock≠some k
 far:Far (λk=>k=r\/k=ge) w W
 bx:W.heap[b]? =some (J #[Z (some ⟨r,0,O⟩)] 149 (0,0))/\W.heap[b+1]? =some (J #[V I (deep:Int)] 3 (0,0))/\W.heap[b+2]? =some (J #[V I 0,U ⟨#[]⟩,V I 0,V I 0,U ⟨#[]⟩,Y O 0 0,Y O 0 0] 78 (0,0))/\W.heap[b+3]? =some (J #[.nilIface] 41 (0,0))
theorem SqI.step{w:World}{d j x p u:Nat}{g:NS}{r:List Tp.En}{m:List Tp.Tree}{t:Nat}{i D:NS}{l y:World}(S:SqI w d j x p u g r m t i l)(X:w.heap.size=d)(P:∀k,g k->k < d)(b:Far D l y)(a:∀k,D k->¬i k/\d+8<=k):SqI w d j x p u g r m t i y:=by
 obtain⟨H,z,s,n,o,T,R,⟨A,G,C,L,N,v,E,q⟩,F,f⟩:=S;exact⟨λk c=>zK (H k c) b.size,z,s,n,o,T,R.far b (λe=>(a _ e).1 s) (λe=>(a _ e).1 n) (λk c _ e=>by have:=P k c;have:=(a _ e).2;omega),⟨A,G,C,b.heap L (λe=>(a _ e).1 o),am N b (λk e M=>(a _ M).1 (v k e)),v,xU.far b (λk c _ e=>(a _ e).1 (q k c).1) _ _ E,q⟩,F.step b (λk c e=>by have:=(a _ e).2;omega),⟨b.heap f.1 (λe=>by have:=(a _ e).2;omega),b.heap f.2.1 (λe=>by have:=(a _ e).2;omega),b.heap f.2.2.1 (λe=>by have:=(a _ e).2;omega),b.heap f.2.2.2 (λe=>by have:=(a _ e).2;omega)⟩⟩
theorem nu{w:World}{q p:Nat}{E x u C v t z r:Value}{T m:TypeId}(F:w.heap[q]? =W (J #[E,x,u,C,v,t,z] T (0,0)))(y:w.heap[p]? =W (J #[r] m (0,0)))(n:p≠q)(f a g d i b c j:Value):
 ((((((((w.setCell ⟨q,0,O⟩ f).setCell ⟨q,1,O⟩ a).setCell ⟨q,2,O⟩ g).setCell ⟨q,3,O⟩ d).setCell ⟨q,4,O⟩ i).setCell ⟨q,5,O⟩ b).setCell ⟨q,6,O⟩ c).cell? ⟨p,0,O⟩=W r/\(((((((w.setCell ⟨q,0,O⟩ f).setCell ⟨q,1,O⟩ a).setCell ⟨q,2,O⟩ g).setCell ⟨q,3,O⟩ d).setCell ⟨q,4,O⟩ i).setCell ⟨q,5,O⟩ b).setCell ⟨q,6,O⟩ c).frozen? ⟨p,0,O⟩=false)/\((((((((w.setCell ⟨q,0,O⟩ f).setCell ⟨q,1,O⟩ a).setCell ⟨q,2,O⟩ g).setCell ⟨q,3,O⟩ d).setCell ⟨q,4,O⟩ i).setCell ⟨q,5,O⟩ b).setCell ⟨q,6,O⟩ c).setCell ⟨p,0,O⟩ j).heap[q]? =W (J #[f,a,g,d,i,b,c] T (0,0))/\((((((((w.setCell ⟨q,0,O⟩ f).setCell ⟨q,1,O⟩ a).setCell ⟨q,2,O⟩ g).setCell ⟨q,3,O⟩ d).setCell ⟨q,4,O⟩ i).setCell ⟨q,5,O⟩ b).setCell ⟨q,6,O⟩ c).setCell ⟨p,0,O⟩ j).heap[p]? =W (J #[j] m (0,0))/\Far (λk=>k=q\/k=p) w ((((((((w.setCell ⟨q,0,O⟩ f).setCell ⟨q,1,O⟩ a).setCell ⟨q,2,O⟩ g).setCell ⟨q,3,O⟩ d).setCell ⟨q,4,O⟩ i).setCell ⟨q,5,O⟩ b).setCell ⟨q,6,O⟩ c).setCell ⟨p,0,O⟩ j):=by
 obtain⟨A,o⟩:=aG F f a g d i b c;have l:=o.heap y n;have s:Far (·=p) (((((((w.setCell ⟨q,0,O⟩ f).setCell ⟨q,1,O⟩ a).setCell ⟨q,2,O⟩ g).setCell ⟨q,3,O⟩ d).setCell ⟨q,4,O⟩ i).setCell ⟨q,5,O⟩ b).setCell ⟨q,6,O⟩ c) ((((((((w.setCell ⟨q,0,O⟩ f).setCell ⟨q,1,O⟩ a).setCell ⟨q,2,O⟩ g).setCell ⟨q,3,O⟩ d).setCell ⟨q,4,O⟩ i).setCell ⟨q,5,O⟩ b).setCell ⟨q,6,O⟩ c).setCell ⟨p,0,O⟩ j):=Far.setCell (D:=(·=p)) (ξ _ _) (p:=⟨p,0,O⟩) (λ_=>rfl) _;exact⟨⟨ae l 0,ag l 0⟩,s.heap A (λe=>n e.symm),ai l 0 j,(o.mono (λ_ _ e=>.inl e)).trans (s.mono (λ_ _ e=>.inr e))⟩
theorem dG{f:Func}{a e:Tmp}(l:f.results=#[.cell a 78,.cell e 41])(b:World)(q p:Nat)(x:Array Value)(d:Value)(c:Array Value)(s:b.heap[q]? =W (J x 78 (0,0)))(r:x.size=7)(j:b.heap[p]? =W (J #[d] 41 (0,0)))(g:c.getD a undef=Z (W ⟨q,0,O⟩))(n:c.getD e undef=Z (W ⟨p,0,O⟩)):
 (results f c).run π b=.ok (.tuple #[γ x,d]) b:=by
 have k:c[a]?.getD undef=Z (W ⟨q,0,O⟩):=by simpa using g
 have o:c[e]?.getD undef=Z (W ⟨p,0,O⟩):=by simpa using n
 have m:=run_loadVar_row (P:=π) b q 78 78 x (0,0) _ s underlying78 rfl (by rw[r];exact gS);have t:=zF j 0 rfl;have i:Sem.run π (loadVar 41 ⟨p,0,O⟩) b=.ok d b:=by simp[go_sem,t]
 simp[results,l,asAddr,k,o,m,i,Sem.run_bind,Result.andThen]
theorem kW(args:Array Value)(w:World):(callFunc 235 args).run π w=.ok (.enter 235 args) w:=by kernel_rfl
end
section
attribute [local go_sem] ak
theorem j1{g:Func}{a f d:Tmp}(m:g.results=#[.cell a 30,.cell f 78,.tmp d])(b:World)(q p:Nat)(x e z:Value)(xs c:Array Value)(t:b.heap[q]? =W (J #[x,e,z] 30 (0,0)))(k:b.heap[p]? =W (J xs 78 (0,0)))(s:xs.size=7)(i:c.getD a undef=Z (W ⟨q,0,O⟩))(o:c.getD f undef=Z (W ⟨p,0,O⟩)):
 (results g c).run π b=.ok (.tuple #[γ #[x,e,z],γ xs,c.getD d undef]) b:=by
 have l:c[a]?.getD undef=Z (W ⟨q,0,O⟩):=by simpa using i
 have r:c[f]?.getD undef=Z (W ⟨p,0,O⟩):=by simpa using o
 have n:=run_loadVar_row (P:=π) b q 30 30 #[x,e,z] (0,0) _ t underlying30 rfl (by kernel_rfl);have j:=run_loadVar_row (P:=π) b p 78 78 xs (0,0) _ k underlying78 rfl (by rw[s];exact gS);simp[results,m,asAddr,l,r,n,j,Sem.run_bind,Result.andThen]
theorem wh(l:List Tp.Tk)(a:World):(Instr.typeAssert (zc l) 308 313 true).run π a=.ok (.tuple #[γ #[U ⟨#[]⟩],β false]) a:=by
 unfold zc;split
 ·kernel_rfl
 ·split<;>kernel_rfl
theorem sJ(l:List Tp.Tk):∃T,zc l=.iface T (γ #[]):=by
 unfold zc;split
 ·exact⟨_,rfl⟩
 ·split<;>exact⟨_,rfl⟩
theorem tD(C b0 d3 cS:Nat)(F:NS)(e:Tp.En)(dr:List Tp.En)(v:Value)(x:Tp.Sc)(t:Tp.Tree)(a6:Tp.Tk)(w:World)(f:yp w C b0 d3 F (e::dr))(bm:Row w F e.l.length v (xZ e.l))(dJ:e.l[0]? =W a6)(es:Tp.fkey a6=W x)(ej:Tp.isName1 (e.l.drop 2)=false)(bx:(e.l.drop 2).isEmpty=false)(dv:∀t∈e.l,zf t)(gl:e.l.length<=100000)(a9:Glob w)(hK:10<=C)(hB:10<=b0)(hd:cS<=24)(fs:Tp.bval (e.l.drop 2) cS=W t):
 Calls π 203 #[Z (W ⟨C,0,O⟩),γ #[V I e.no,V I e.col,v],V I (cS:Int)] w λb4 w'=>(∃c9:List Value,b4=ρ (.tuple #[scV x,γ c9.toArray,.nilIface])/\xS w' (New w) t c9)/\yp w' C b0 (d3+3) F dr/\Far (λk=>k=C\/k=b0) w w':=by
 have g5:3<=e.l.length:=by
  have a2:(e.l.drop 2)≠[]:=by simpa using bx
  have L:=List.length_pos_iff.2 a2;rw[zZ]at L;omega
 obtain⟨hq,g,o,d,rfl,fn,f4⟩:=iN bm;obtain⟨rfl,gZ,b5,bk,b6⟩:=f4 0 a6 dJ;rw[Nat.zero_mul,Nat.add_zero]at b5 bk b6;obtain⟨c,P⟩:∃n,e.l.length=n:=⟨_,rfl⟩;have hm:c<=d/\d<=maxLen:=by obtain⟨_,_,_,_,b2,a2,_⟩:=bm;injection b2 with _ _ df;subst df;rw[<-P];exact a2
 rw[P]at bm g5 fn gl;have d6:=bm.dropTk P.symm 2 (by omega) rfl;have co:=λb a9=>rk a6 (dv a6 (zL dJ)) x es b a9;obtain⟨q,S⟩:∃q,w.heap.size=q:=⟨_,rfl⟩;have c2:Far xO w (((w.alloc (J #[V I e.no,V I e.col,Y (W ⟨g,o,O⟩) c d] 220)).alloc (J #[V I 0,V I 0,U ⟨#[]⟩] 30)).alloc (J #[V I 0,U ⟨#[]⟩,V I 0,V I 0,U ⟨#[]⟩,Y O 0 0,Y O 0 0] 78)):=(((ξ _ w).alloc _).alloc _).alloc _;have c3:(((w.alloc (J #[V I e.no,V I e.col,Y (W ⟨g,o,O⟩) c d] 220)).alloc (J #[V I 0,V I 0,U ⟨#[]⟩] 30)).alloc (J #[V I 0,U ⟨#[]⟩,V I 0,V I 0,U ⟨#[]⟩,Y O 0 0,Y O 0 0] 78)).heap[q]? =W (J #[V I e.no,V I e.col,Y (W ⟨g,o,O⟩) c d] 220 (0,0)):=by rw[<-S];exact aa _ (aa _ (af w _))
 have e3:(((w.alloc (J #[V I e.no,V I e.col,Y (W ⟨g,o,O⟩) c d] 220)).alloc (J #[V I 0,V I 0,U ⟨#[]⟩] 30)).alloc (J #[V I 0,U ⟨#[]⟩,V I 0,V I 0,U ⟨#[]⟩,Y O 0 0,Y O 0 0] 78)).heap[q+1]? =W (J #[V I 0,V I 0,U ⟨#[]⟩] 30 (0,0)):=aa _ (ah _ _ _ (by simp[S]));have fR:(((w.alloc (J #[V I e.no,V I e.col,Y (W ⟨g,o,O⟩) c d] 220)).alloc (J #[V I 0,V I 0,U ⟨#[]⟩] 30)).alloc (J #[V I 0,U ⟨#[]⟩,V I 0,V I 0,U ⟨#[]⟩,Y O 0 0,Y O 0 0] 78)).heap[q+2]? =W (J #[V I 0,U ⟨#[]⟩,V I 0,V I 0,U ⟨#[]⟩,Y O 0 0,Y O 0 0] 78 (0,0)):=ah _ _ _ (by simp[S]);have f5:(((w.alloc (J #[V I e.no,V I e.col,Y (W ⟨g,o,O⟩) c d] 220)).alloc (J #[V I 0,V I 0,U ⟨#[]⟩] 30)).alloc (J #[V I 0,U ⟨#[]⟩,V I 0,V I 0,U ⟨#[]⟩,Y O 0 0,Y O 0 0] 78)).heap.size=q+3:=by simp[S]
 obtain⟨hv,dn⟩:∃dl,xR a6.s=U dl:=⟨_,rfl⟩;obtain⟨SX,ck⟩:∃dl,xR x.s=U dl:=⟨_,rfl⟩;rw[dn]at bk;unfold tkV yK scV at co;rw[dn,ck]at co;have fL:F g:=by
  obtain⟨_,hn,hC,_,b2,_,df,b3⟩:=bm;injection b2 with b2 _ _;have bx:xZ e.l≠[]:=λg4=>by have ca:=bi e.l;rw[g4]at ca;simp at ca;omega
  have bb:=(b3 bx).1;rw[<-b2]at bb;injection bb with bb;injection bb with bb;rw[bb];exact df bx
 have e6:=f.far c2 (λe=>e) (λe=>e) (λ_ _ _ e=>e);have f8:=ni C b0 d3 F e dr _ e6;have gR:=f.lt;have d2:=f.tgl;rw[S]at gR d2;have hk:g < q:=by rw[<-S];exact gZ
 have d5:g≠C:=λhh=>f.tgr (hh ▸ fL);have ht:(2:Int)<=(c:Int):=by omega
 have hl:(c:Int)<=(d:Int):=by omega
 have hQ:(0:Int) < (c:Int):=by omega
 have hz:(2:Int)<=(d:Int):=by omega
 have hJ:0 < c:=by omega
 have hy:2<=c:=by omega
 have hu:¬d=2:=by omega
 have hN:2 < d:=by omega
 have cv:=λb (j:Row b F (c - 2) (Y (W ⟨g,o+2 * 3,O⟩) (c - 2) (d - 2)) (xZ (e.l.drop 2)))=>cr e.no e.col (Y (W ⟨g,o+2 * 3,O⟩) (c - 2) (d - 2)) (e.l.drop 2) F b (by rw[zZ,P];exact j) ej;have dA:=λb (j:Row b F (c - 2) (Y (W ⟨g,o+2 * 3,O⟩) (c - 2) (d - 2)) (xZ (e.l.drop 2))) (a9:Glob b)=>iF (Z (W ⟨C,0,O⟩)) ⟨_,rfl⟩ e.no e.col (W ⟨g,o,O⟩) c d (Y (W ⟨g,o+2 * 3,O⟩) (c - 2) (d - 2)) (e.l.drop 2) F cS t b (by rw[zZ,P];exact j) (λt gg=>dv t (List.mem_of_mem_drop gg)) (by rw[zZ,P];omega) a9 hd fs;have al:=wh (e.l.drop 2);obtain⟨hs,fz⟩:=sJ (e.l.drop 2);rw[fz]at al cv;simp only[show 2 * 3=6 from rfl]at cv dA d6;have g0:((c - 2:Nat):Int)≠0:=by omega
 have hM:(((c - 2:Nat):Int)==0)=false:=by simpa using g0
 have hL:¬c - 2=0:=by omega
 obtain⟨gx,g6,hg,_⟩:=bv c3;obtain⟨hf,fY,fv,ep,el,f7⟩:=zx6 c2 c3 e3 fR f8 d6;obtain⟨f0,g3,hj,gr,fG,c5⟩:=zx6 co cv dA al a9 S;obtain⟨gM,d0,ho⟩:=zx3 f5 d2 ck;have db:=zD (θ b5 (θ bk b6));rw[P];unfold scV;rw[ck];clear c2 c3 e3 fR f8 d6 co cv dA al a9 f5 P d2 b5 bk b6 e6 f bm f4 dv bx ej fs es dJ fz dn ck fn fL
 go_enter func203,ntmps203
 go_upto_region 1 with (fail)
 generalize (((w.alloc (J #[V I e.no,V I e.col,Y (W ⟨g,o,O⟩) c d] 220)).alloc (J #[V I 0,V I 0,U ⟨#[]⟩] 30)).alloc (J #[V I 0,U ⟨#[]⟩,V I 0,V I 0,U ⟨#[]⟩,Y O 0 0,Y O 0 0] 78))=hD at *;clear S
 go_wp2_with fail
 refine el.out.mono ?_;rintro b4 c0 ⟨⟨hH,rfl⟩,e9,bs⟩;rw[show q+1+1=q+2 by omega];have bn:Far (·=C) w c0:=(hf.out.mono (λ_ _ e=>e.elim)).trans bs;have f6:Glob c0:=fG.out.far bn (λk i e=>by omega);have d4:=bs.heap fY.out (by omega);obtain⟨gQ,hb,gJ,_⟩:=bv d4;have b5:=bn.at db.out.1 d5;have bk:=bn.at db.out.2.1 d5;have b6:=bn.at db.out.2.2 d5;have fc:=f0.out c0 f6;obtain⟨fE,hc,gN,g2⟩:=zx4 fc e9 bn d4;have hE:=bs.size;have gk:=zD (bs.heap fv.out (by omega));have hi:=zD (bs.heap ep.out (by omega));clear bn f6 d4 fc e9 bs f0 el fY fv ep gx g6 hg
 go_wp2_with fail
 refine fE.out.mono ?_;rintro b4 bw ⟨rfl,ds⟩;obtain⟨a,e5⟩:∃q,bw.heap.size=q:=⟨_,rfl⟩;have ba:Far xO c0 (bw.alloc (J #[V I x.k,V I x.n,U SX] 30)):=(Far.of_below ds xO).alloc _;have ca:(bw.alloc (J #[V I x.k,V I x.n,U SX] 30)).heap[a]? =W (J #[V I x.k,V I x.n,U SX] 30 (0,0)):=by rw[<-e5];exact af bw _
 have eg:(bw.alloc (J #[V I x.k,V I x.n,U SX] 30)).heap.size=a+1:=by rw[<-e5];exact Array.size_push ..
 have hr:=ds.size;have hx:=gM.out;have hG:q+3<=a:=by omega
 clear gQ hb gJ b5 bk b6 fE ds
 go_upto_region 5 with (fail)
 generalize (bw.alloc (J #[V I x.k,V I x.n,U SX] 30))=G at *;have N:=ba.heap g2.out id;have be:(λb=>b.cell? ⟨q,0,O⟩=W (V I e.no)/\b.cell? ⟨q,1,O⟩=W (V I e.col)/\b.cell? ⟨q,2,O⟩=W (Y (W ⟨g,o,O⟩) c d)) G.drew:=⟨ae N 0,ae N 1,ae N 2⟩;refine wp_region_noPanic ?_;refine ar (λb=>b.cell? ⟨q,0,O⟩=W (V I e.no)/\b.cell? ⟨q,1,O⟩=W (V I e.col)/\b.cell? ⟨q,2,O⟩=W (Y (W ⟨g,o,O⟩) c d)) [9] (by kernel_rfl) ?_;refine ay 10 (by kernel_rfl) (λ_ _ _ _ f=>f) be 2 [0,1,2,3,4,5,6,7] _ _ (by kernel_rfl) ?_;iterate 8 (refine Ei ?_;(try go_frame))
 refine xT.done ?_;try dsimp only
 refine aq [8] ?_;refine aj rfl (λK l=>?_) xQ.nil
 go_simp
 have bR:Far xO G ((G.alloc (J #[V I 0,V I 0,Y O 0 0] 220)).drew):=((ξ _ G).alloc _).drew;refine l.out _ _ (λ_=>⟨bR.at (ae N 0) id,bR.at (ae N 1) id,bR.at (ae N 2) id⟩) ?_;clear l K
 (try go_frame)
 have b3:((G.alloc (J #[V I 0,V I 0,Y O 0 0] 220)).drew).heap[a+1]? =W (J #[V I 0,V I 0,Y O 0 0] 220 (0,0)):=by rw[<-eg];exact cq (af G _)
 have g7:((G.alloc (J #[V I 0,V I 0,Y O 0 0] 220)).drew).heap.size=a+2:=by rw[show a+2=G.heap.size+1 by rw[eg]];exact Array.size_push ..
 generalize ((G.alloc (J #[V I 0,V I 0,Y O 0 0] 220)).drew)=fl at *;obtain⟨ch,cm,cc,cT,cl,c1⟩:=bv b3;obtain⟨R,u⟩:=xv b3 (V I e.no) (V I e.col) (Y (W ⟨g,o+6,O⟩) (c - 2) (d - 2));have a0:=(bR.mono (D':=(·=a+1)) (λ_ _ e=>e.elim)).trans u;have hw:=u.size;have ga:=a0.heap ca (by omega);have ex:=a0.heap N (by omega);have fS:=a0.heap (ba.heap gk.out id) (by omega);have er:=a0.heap (ba.heap hi.out id) (by omega);have f9:Far (·=C) w _:=gN.out.step (ba.step a0 (λk i e=>(by omega:False))) (λ_ _ e=>e.elim);have eM:=(hc.out.far ba (λe=>e) (λe=>e) (λ_ _ _ e=>e)).far a0 (by omega) (by omega) (λk i _ e=>by have:=d0.out k i;omega);have fr:=zD (θ R (θ ga (θ ex (θ fS (θ er (θ f9 eM))))));clear R u a0 ga ex fS er f9 eM b3 bR be N ca ba;refine aq [9] ?_;refine aj rfl (λK l=>?_) xQ.nil
 go_simp
 refine l.out _ _ (λf=>absurd (by simp) f) ?_;clear l K
 (try go_frame)
 refine aP (by kernel_rfl) (NoPanic.normal ?_) _;have fu:(((fl.setCell ⟨a+1,0,O⟩ (V I e.no)).setCell ⟨a+1,1,O⟩ (V I e.col)).setCell ⟨a+1,2,O⟩ (Y (W ⟨g,o+6,O⟩) (c - 2) (d - 2))).heap.size=a+2:=by simp[World.setCell,g7]
 clear ch cm cc cT cl c1;generalize (((fl.setCell ⟨a+1,0,O⟩ (V I e.no)).setCell ⟨a+1,1,O⟩ (V I e.col)).setCell ⟨a+1,2,O⟩ (Y (W ⟨g,o+6,O⟩) (c - 2) (d - 2)))=H at *;have M:Far xO H (H.alloc (J #[V I 0,U ⟨#[]⟩,V I 0,V I 0,U ⟨#[]⟩,Y O 0 0,Y O 0 0] 78)):=(ξ _ H).alloc _;have gf:(H.alloc (J #[V I 0,U ⟨#[]⟩,V I 0,V I 0,U ⟨#[]⟩,Y O 0 0,Y O 0 0] 78)).heap[a+2]? =W (J #[V I 0,U ⟨#[]⟩,V I 0,V I 0,U ⟨#[]⟩,Y O 0 0,Y O 0 0] 78 (0,0)):=by rw[<-fu];exact af H _
 have e0:(H.alloc (J #[V I 0,U ⟨#[]⟩,V I 0,V I 0,U ⟨#[]⟩,Y O 0 0,Y O 0 0] 78)).heap.size=a+3:=by rw[show a+3=H.heap.size+1 by rw[fu]];exact Array.size_push ..
 obtain⟨bq,p,cb,s,A,z,r⟩:=fr.out;have e1:=r.tgr;obtain⟨d1,da,c4,_⟩:=bv (M.heap bq id);have dc:=z.step M (λ_ _ e=>e.elim);have ei:=g3.out _ (f7.out.far dc (λk i _ e=>e1 (e ▸ i)));have al:=gr.out;obtain⟨e4,gO⟩:=zx2 ei al;have ef:=zD (θ (M.heap bq id) (θ (M.heap p id) (θ (M.heap cb id) (θ (M.heap s id) (θ (M.heap A id) (θ dc (θ (r.far M (λe=>e) (λe=>e) (λ_ _ _ e=>e)) gf)))))));clear ei al M gf bq p cb s A z r dc fr
 go_wp2_with fail
 refine e4.out.mono ?_;rintro b4 a5 ⟨rfl,ge⟩;have E:Far xO (H.alloc (J #[V I 0,U ⟨#[]⟩,V I 0,V I 0,U ⟨#[]⟩,Y O 0 0,Y O 0 0] 78)) a5:=Far.of_below ge xO;have ha:=E.size;rw[e0]at ha;obtain⟨bq,p,cb,s,A,z,r,m⟩:=ef.out;have cf:=z.step E (λ_ _ e=>e.elim);have fw:=hj.out a5 (f7.out.far cf (λk i _ e=>e1 (e ▸ i))) (fG.out.far cf (λk i e=>by omega));clear d1 da c4;obtain⟨d1,da,c4,_⟩:=bv (E.heap bq id);obtain⟨g1,he,gj,_⟩:=bv (E.heap cb id);have al:=gO.out;have ek:=zD fw;have e8:=zD (θ (E.heap p id) (θ (E.heap s id) (θ (E.heap A id) (θ cf (θ (r.far E (λe=>e) (λe=>e) (λ_ _ _ e=>e)) (E.heap m id))))));clear fw E ge bq p cb s A z r m cf ef e4 e0;generalize (H.alloc (J #[V I 0,U ⟨#[]⟩,V I 0,V I 0,U ⟨#[]⟩,Y O 0 0,Y O 0 0] 78))=hF at *
 go_wp2_with fail
 refine ek.out.mono ?_;rintro b4 f2 ⟨⟨c9,rfl,dm⟩,e2⟩;obtain⟨an,ab,a3,a4,a1,av,ac,ao,X,ad,T,rfl⟩:=dm.form;have dj:Far xO a5 f2:=Far.of_below e2 xO;obtain⟨p,s,A,z,r,m⟩:=e8.out;have dC:=dj.heap m id;obtain⟨ch,cm,cc,e7,ft,f1,eq,cT,cl,c1,en,gd,gb,gc⟩:=bd dC;obtain⟨R,u⟩:=aG dC (V I an) (U ab) (V I a3) (V I a4) (U a1) (Y av ac ao) (Y X ad T);have y:=(dj.mono (D':=(·=a+2)) (λ_ _ e=>e.elim)).trans u;have b1:=xS.far u (λk (i:a5.heap.size<=k) _ e=>by omega) _ _ dm;have dg:=zD (θ (y.heap p (by omega)) (θ (y.heap s (by omega)) (θ (y.heap A (by omega)) (θ (z.step y (λk i e=>by have:=c5.out;omega)) (θ (r.far y (by omega) (by omega) (λk i _ e=>by have:=d0.out k i;omega)) (θ R b1))))));clear p s A z r m dC R u y b1 dm dj e2 e8 ek d1 da c4 g1 he gj
 go_upto_region 16 with (fail)
 clear ch cm cc e7 ft f1 eq cT cl c1 en gd gb gc;generalize hW9:(((((((f2.setCell ⟨a+2,0,O⟩ (V I an)).setCell ⟨a+2,1,O⟩ (U ab)).setCell ⟨a+2,2,O⟩ (V I a3)).setCell ⟨a+2,3,O⟩ (V I a4)).setCell ⟨a+2,4,O⟩ (U a1)).setCell ⟨a+2,5,O⟩ (Y av ac ao)).setCell ⟨a+2,6,O⟩ (Y X ad T))=b9 at dg ⊢;clear hW9;obtain⟨p,s,A,z,r,m,b1⟩:=dg.out;have be:(λb=>b.cell? ⟨a,0,O⟩=W (V I x.k)/\b.cell? ⟨a,1,O⟩=W (V I x.n)/\b.cell? ⟨a,2,O⟩=W (U SX)/\b.cell? ⟨a+2,0,O⟩=W (V I an)/\b.cell? ⟨a+2,1,O⟩=W (U ab)/\b.cell? ⟨a+2,2,O⟩=W (V I a3)/\b.cell? ⟨a+2,3,O⟩=W (V I a4)/\b.cell? ⟨a+2,4,O⟩=W (U a1)/\b.cell? ⟨a+2,5,O⟩=W (Y av ac ao)/\b.cell? ⟨a+2,6,O⟩=W (Y X ad T)) b9.drew:=⟨ae p 0,ae p 1,ae p 2,ae m 0,ae m 1,ae m 2,ae m 3,ae m 4,ae m 5,ae m 6⟩;have bD:Far xO b9 b9.drew:=(ξ _ b9).drew;obtain⟨hI,hA,hp,u0,u1,u2⟩:=bv (bD.heap s id);obtain⟨R,u⟩:=xv (bD.heap s id) (V I x.k) (V I x.n) (U SX);have c6:=u.heap (bD.heap A id) (by omega);obtain⟨ch,cm,cc,e7,ft,f1,eq,cT,cl,c1,en,gd,gb,gc⟩:=bd c6;obtain⟨f3,ct⟩:=aG c6 (V I an) (U ab) (V I a3) (V I a4) (U a1) (Y av ac ao) (Y X ad T);have dp:∀(b dW:World) (D:Nat->Prop),Far D b dW->¬D a->¬D (a+2)->(λb:World=>b.cell? ⟨a,0,O⟩=W (V I x.k)/\b.cell? ⟨a,1,O⟩=W (V I x.n)/\b.cell? ⟨a,2,O⟩=W (U SX)/\b.cell? ⟨a+2,0,O⟩=W (V I an)/\b.cell? ⟨a+2,1,O⟩=W (U ab)/\b.cell? ⟨a+2,2,O⟩=W (V I a3)/\b.cell? ⟨a+2,3,O⟩=W (V I a4)/\b.cell? ⟨a+2,4,O⟩=W (U a1)/\b.cell? ⟨a+2,5,O⟩=W (Y av ac ao)/\b.cell? ⟨a+2,6,O⟩=W (Y X ad T)) b->(λb:World=>b.cell? ⟨a,0,O⟩=W (V I x.k)/\b.cell? ⟨a,1,O⟩=W (V I x.n)/\b.cell? ⟨a,2,O⟩=W (U SX)/\b.cell? ⟨a+2,0,O⟩=W (V I an)/\b.cell? ⟨a+2,1,O⟩=W (U ab)/\b.cell? ⟨a+2,2,O⟩=W (V I a3)/\b.cell? ⟨a+2,3,O⟩=W (V I a4)/\b.cell? ⟨a+2,4,O⟩=W (U a1)/\b.cell? ⟨a+2,5,O⟩=W (Y av ac ao)/\b.cell? ⟨a+2,6,O⟩=W (Y X ad T)) dW:=λb dW D j a2 L f=>⟨j.at f.1 a2,j.at f.2.1 a2,j.at f.2.2.1 a2,j.at f.2.2.2.1 L,j.at f.2.2.2.2.1 L,j.at f.2.2.2.2.2.1 L,j.at f.2.2.2.2.2.2.1 L,j.at f.2.2.2.2.2.2.2.1 L,j.at f.2.2.2.2.2.2.2.2.1 L,j.at f.2.2.2.2.2.2.2.2.2 L⟩;have di:=dp _ _ _ u (by omega) (by omega) be;have fX:=dp _ _ _ ct (by omega) (by omega) di;obtain⟨g8,fT⟩:=zx2 di fX;clear dp di fX;have y:=((bD.mono (D':=λk=>k=q+1\/k=q+2) (λ_ _ e=>e.elim)).trans (u.mono (λ_ _ e=>.inl e))).trans (ct.mono (λ_ _ e=>.inr e));have b8:=zD (θ (ct.heap R (by omega)) (θ f3 (θ (xS.far y (λk (i:a5.heap.size<=k) _ e=>by omega) _ _ b1) (θ (r.far y (by omega) (by omega) (λk i _ e=>by have:=d0.out k i;omega)) (z.step y (λk i e=>by have:=c5.out;omega))))));clear p s A z r m b1 bD R u c6 f3 ct y dg;refine wp_region_noPanic ?_;refine ar (λb=>b.cell? ⟨a,0,O⟩=W (V I x.k)/\b.cell? ⟨a,1,O⟩=W (V I x.n)/\b.cell? ⟨a,2,O⟩=W (U SX)/\b.cell? ⟨a+2,0,O⟩=W (V I an)/\b.cell? ⟨a+2,1,O⟩=W (U ab)/\b.cell? ⟨a+2,2,O⟩=W (V I a3)/\b.cell? ⟨a+2,3,O⟩=W (V I a4)/\b.cell? ⟨a+2,4,O⟩=W (U a1)/\b.cell? ⟨a+2,5,O⟩=W (Y av ac ao)/\b.cell? ⟨a+2,6,O⟩=W (Y X ad T)) [] (by kernel_rfl) ?_;refine ay 10 (by kernel_rfl) (λ_ _ _ _ f=>f) be 3 [0,1,2] _ _ (by kernel_rfl) ?_;iterate 3 (refine Ei ?_;(try go_frame))
 refine xT.done ?_;try dsimp only
 clear be;generalize b9.drew=hP at *;refine aq [3] ?_;refine aj rfl (λK l=>?_) xQ.nil
 go_simp
 refine l.out _ _ (λ_=>g8.out) ?_;clear l K
 (try go_frame)
 refine aq [4] ?_;refine aj rfl (λK l=>?_) xQ.nil
 go_simp
 refine l.out _ _ (λ_=>fT.out) ?_;clear l K
 (try go_frame)
 refine aq [5] ?_;refine aj rfl (λK l=>?_) xQ.nil
 go_simp
 refine l.out _ _ (λ_=>fT.out) ?_;clear l K
 (try go_frame)
 refine aP (by kernel_rfl) (NoPanic.normal ?_) _
 go_wp2_with fail
 exact bodyPost_ret (j1 results203 _ (q+1) (q+2) _ _ _ _ _ b8.out.1 b8.out.2.1 rfl rfl rfl) rfl ⟨⟨_,rfl,xS.mono (λk (i:a5.heap.size<=k) _=>by have:=c5.out;show w.heap.size<=k;omega) _ _ b8.out.2.2.1⟩,b8.out.2.2.2.1,b8.out.2.2.2.2.mono (λk _ e=>.inl e)⟩
end
section
attribute [local go_sem] ak
attribute [local go_sem] Oper.semAt_some
theorem ip{l:List Tp.Tk}(a:Tp.isKey l=true):Tp.isDash l=(!true):=by
 match l,a with
 | [],a=>simp[Tp.isKey]at a
 | [t],a=>simp[Tp.isKey]at a
 |t::u::r,a=>
  simp only[Tp.isKey,zQ,Bool.or_eq_true,beq_iff_eq]at a;simp only[Tp.isDash,Bool.not_true,beq_eq_false_iff_ne];rcases a.1 with a|a<;>rw[a]<;>decide
theorem nR(j:Int):∀(i:List Tp.En) (b:List Tp.Sc) (c:List Tp.Tree),Tp.bdict j i=W (b,c)->b.length=i.length/\c.length=i.length/\∀(t:Nat) (e:Tp.En),i[t]? =W e->e.col=j/\Tp.isKey e.l=true/\Tp.isName1 (e.l.drop 2)=false/\(e.l.drop 2).isEmpty=false/\∃d x v,e.l[0]? =W d/\Tp.fkey d=W x/\b[t]? =W x/\c[t]? =W v/\Tp.bval (e.l.drop 2) 2=W v
 | [],b,c,h=>by
  unfold Tp.bdict at h;cases h
  exact⟨rfl,rfl,λt e f=>by simp at f⟩
 |e::r,b,c,h=>by
  unfold Tp.bdict at h;split at h
  ·rename_i hc
   split at h
   ·rename_i d r0 hl
    cases a:Tp.fkey d with
    |none=>rw[a]at h;cases h
    |some x=>
     cases g:Tp.bval (e.l.drop 2) 2 with
     |none=>rw[a,g]at h;cases h
     |some v=>
      cases k:Tp.bdict j r with
      |none=>rw[a,g,k]at h;cases h
      |some kv=>
       obtain⟨xs,n⟩:=kv;rw[a,g,k]at h;cases h
       obtain⟨o,l,p⟩:=nR j r xs n k;refine⟨by simp[o],by simp[l],λt m f=>?_⟩;cases t with
       |zero=>simp at f;subst f;exact⟨hc.1,hc.2.1,hc.2.2.1,hc.2.2.2,d,x,v,by rw[hl];rfl,a,rfl,rfl,g⟩
       |succ t=>exact p t m (by simpa using f)
   ·cases h
  ·cases h
structure DcI(w:World)(b r ge oe deep:Nat)(TG:NS)(es:List Tp.En)(ks:List Tp.Sc)(vs:List Tp.Tree)(t:Nat)(F:NS)(W:World):Prop where
 lt:∀k,F k->k < W.heap.size
 fr:∀k,F k->k=r\/k=ge\/b<=k
 fR:F r
 fG:F ge
 f4:F (b+4)
 nb:¬F b/\¬F (b+1)/\¬F (b+2)/\¬F (b+3)
 rd:yp W r ge (oe+3 * t) TG (es.drop t)
 row:∃kv dv cs KF,W.heap[b+4]? =some (J #[V I 2,U ⟨#[]⟩,V I 0,V I 0,U ⟨#[]⟩,kv,dv] 78 (0,0))/\W.ownsRow (b+8) 30 3 kv t (xV (ks.take t))/\W.ownsRow (b+8) 78 7 dv t cs/\(∀k,dv.ownBlock=some k->F k/\kv.ownBlock≠some k)/\(∀k,kv.ownBlock=some k->F k)/\xU W KF (vs.take t) cs/\∀k,KF k->F k/\b+8<=k/\dv.ownBlock≠some k/\kv.ownBlock≠some k
 far:Far (λk=>k=r\/k=ge) w W
 bx:W.heap[b]? =some (J #[Z (some ⟨r,0,O⟩)] 149 (0,0))/\W.heap[b+1]? =some (J #[V I (deep:Int)] 3 (0,0))/\W.heap[b+2]? =some (J #[V I 0,U ⟨#[]⟩,V I 0,V I 0,U ⟨#[]⟩,Y O 0 0,Y O 0 0] 78 (0,0))/\W.heap[b+3]? =some (J #[.nilIface] 41 (0,0))
theorem DcI.step{w:World}{d l z r x:Nat}{g:NS}{u:List Tp.En}{m:List Tp.Sc}{o:List Tp.Tree}{t:Nat}{j D:NS}{n C:World}(h:DcI w d l z r x g u m o t j n)(ad:w.heap.size=d)(T:∀k,g k->k < d)(b:Far D n C)(a:∀k,D k->¬j k/\d+8<=k):DcI w d l z r x g u m o t j C:=by
 obtain⟨P,E,v,p,q,ac,X,⟨kv,F,N,H,R,G,S,y,A,L,s⟩,M,f⟩:=h;exact⟨λk c=>zK (P k c) b.size,E,v,p,q,ac,X.far b (λe=>(a _ e).1 v) (λe=>(a _ e).1 p) (λk c _ e=>by have:=T k c;have:=(a _ e).2;omega),⟨kv,F,N,H,b.heap R (λe=>(a _ e).1 q),am G b (λk e i=>(a _ i).1 (A k e)),am S b (λk e i=>(a _ i).1 (y k e).1),y,A,xU.far b (λk c _ e=>(a _ e).1 (s k c).1) _ _ L,s⟩,M.step b (λk c e=>by have:=(a _ e).2;omega),⟨b.heap f.1 (λe=>by have:=(a _ e).2;omega),b.heap f.2.1 (λe=>by have:=(a _ e).2;omega),b.heap f.2.2.1 (λe=>by have:=(a _ e).2;omega),b.heap f.2.2.2 (λe=>by have:=(a _ e).2;omega)⟩⟩
theorem uj(s ad b8 a4:Nat)(ge:a4=1)(ca:NS)(a5:List Tp.En)(bR:List Tp.Sc)(b2:List Tp.Tree)(b5:Int)(w:World)(b:yp w s ad b8 ca a5)(gr:∀e∈a5,(∀t∈e.l,zf t)/\e.l.length<=100000)(hH:Glob w)(kB:10<=s)(kl:10<=ad)(hM:Tp.bdict b5 a5=W (bR,b2))(js:a5.length<=100000):
 Calls π 155 #[Z (W ⟨s,0,O⟩),V I b5,V I (a4:Int)] w λx w'=>(∃f2:List Value,x=ρ (.tuple #[γ f2.toArray,.nilIface])/\xS w' (New w) ⟨2,[],Tp.Sc.null,bR,b2⟩ f2)/\yp w' s ad (b8+3 * a5.length) ca []/\Far (λk=>k=s\/k=ad) w w':=by
 obtain⟨kn,fr,kg,i1,jw⟩:=info_parts nL;obtain⟨c,X⟩:∃c,w.heap.size=c:=⟨_,rfl⟩;obtain⟨dl,dm,f7⟩:=nR b5 a5 bR b2 hM;generalize hN:a5.length=T at dm dl js ⊢;have i5:=b.lt;have fs:=b.tgl;rw[X]at i5 fs;obtain⟨a9,a6⟩:∃x,((((((((w.alloc (J #[Z (W ⟨s,0,O⟩)] 149)).alloc (J #[V I (a4:Int)] 3)).alloc (J #[V I 0,U ⟨#[]⟩,V I 0,V I 0,U ⟨#[]⟩,Y O 0 0,Y O 0 0] 78)).alloc (J #[.nilIface] 41)).alloc (J #[V I 2,U ⟨#[]⟩,V I 0,V I 0,U ⟨#[]⟩,Y O 0 0,Y O 0 0] 78)).alloc (J #[Z (W ⟨s,0,O⟩)] 149)).alloc (J #[V I b5] 3)).alloc (J #[.iface 311 (γ #[])] 308))=x:=⟨_,rfl⟩;have ek:Far xO w a9:=by rw[<-a6];exact(((((((((ξ _ w).alloc _).alloc _).alloc _).alloc _).alloc _).alloc _).alloc _)).alloc _
 have f3:a9.heap.size=c+8:=by rw[<-a6];simp[X]
 have f9:a9.heap[c]? =W (J #[Z (W ⟨s,0,O⟩)] 149 (0,0)):=by rw[<-a6,<-X];exact aa _ (aa _ (aa _ (aa _ (aa _ (aa _ (aa _ (af w _)))))))
 have dj:a9.heap[c+1]? =W (J #[V I (a4:Int)] 3 (0,0)):=by rw[<-a6];exact aa _ (aa _ (aa _ (aa _ (aa _ (aa _ (ah _ _ _ (by simp[X])))))))
 have dJ:a9.heap[c+2]? =W (J #[V I 0,U ⟨#[]⟩,V I 0,V I 0,U ⟨#[]⟩,Y O 0 0,Y O 0 0] 78 (0,0)):=by rw[<-a6];exact aa _ (aa _ (aa _ (aa _ (aa _ (ah _ _ _ (by simp[X]))))))
 have hE:a9.heap[c+3]? =W (J #[.nilIface] 41 (0,0)):=by rw[<-a6];exact aa _ (aa _ (aa _ (aa _ (ah _ _ _ (by simp[X])))))
 have hb:a9.heap[c+4]? =W (J #[V I 2,U ⟨#[]⟩,V I 0,V I 0,U ⟨#[]⟩,Y O 0 0,Y O 0 0] 78 (0,0)):=by rw[<-a6];exact aa _ (aa _ (aa _ (ah _ _ _ (by simp[X]))))
 have g8:a9.heap[c+5]? =W (J #[Z (W ⟨s,0,O⟩)] 149 (0,0)):=by rw[<-a6];exact aa _ (aa _ (ah _ _ _ (by simp[X])))
 have g4:a9.heap[c+6]? =W (J #[V I b5] 3 (0,0)):=by rw[<-a6];exact aa _ (ah _ _ _ (by simp[X]))
 have gj:a9.heap[c+7]? =W (J #[.iface 311 (γ #[])] 308 (0,0)):=by rw[<-a6];exact ah _ _ _ (by simp[X])
 have fE:(((((w.alloc (J #[Z (W ⟨s,0,O⟩)] 149)).alloc (J #[V I (a4:Int)] 3)).alloc (J #[V I 0,U ⟨#[]⟩,V I 0,V I 0,U ⟨#[]⟩,Y O 0 0,Y O 0 0] 78)).alloc (J #[.nilIface] 41)).alloc (J #[V I 2,U ⟨#[]⟩,V I 0,V I 0,U ⟨#[]⟩,Y O 0 0,Y O 0 0] 78)).cell? ⟨c,0,O⟩=W (Z (W ⟨s,0,O⟩)):=by rw[<-X];exact ae (aa _ (aa _ (aa _ (aa _ (af w _))))) 0
 have hn:(((((w.alloc (J #[Z (W ⟨s,0,O⟩)] 149)).alloc (J #[V I (a4:Int)] 3)).alloc (J #[V I 0,U ⟨#[]⟩,V I 0,V I 0,U ⟨#[]⟩,Y O 0 0,Y O 0 0] 78)).alloc (J #[.nilIface] 41)).alloc (J #[V I 2,U ⟨#[]⟩,V I 0,V I 0,U ⟨#[]⟩,Y O 0 0,Y O 0 0] 78)).heap.size=c+5:=by simp[X]
 have g7:=b.far ek (λe=>e) (λe=>e) (λ_ _ _ e=>e);have fT:=jS true a5 b5 s ca (c+5) (c+5+1) (c+5+1+1) a9 g8 g4 gj (λe cT=>by
  obtain⟨i,fr,rfl⟩:=List.getElem_of_mem cT;obtain⟨ch,d3,_⟩:=f7 i _ (zE fr);exact⟨ch,ip d3,λ_=>d3⟩)
 have gN:DcI w c s ad b8 a4 ca a5 bR b2 0 (λk=>k=s\/k=ad\/k=c+4) a9:=⟨λk j=>by rw[f3];omega,λk j=>by omega,.inl rfl,.inr (.inl rfl),.inr (.inr rfl),by omega,by rw[List.drop_zero];exact g7,⟨Y O 0 0,Y O 0 0,[],xO,hb,World.ownsRow_nil _ _ _ _,World.ownsRow_nil _ _ _ _,λk b=>by simp[Value.ownBlock]at b,λk b=>by simp[Value.ownBlock]at b,by rw[List.take_zero];unfold xU;rfl,λ_ b=>b.elim⟩,ek.mono (λ_ _ e=>e.elim),f9,dj,dJ,hE⟩;rw[hN]at fT;obtain⟨hy,dg,d2,iB,k2,i7⟩:=zx6 a6 X f3 fT gN f7;obtain⟨h5,iC,df⟩:=zx3 gr hH fs;have ct:=zD (θ hN (θ dm (θ ge dl)));have lg:=zD ek;clear a6 ek f3 f9 dj dJ hE hb g8 g4 gj g7 fT gN f7 gr hH fs b hM hN dm dl ge;refine callsIn_wide.1 (callsIn_of_wp_marks (n:=5) func155 rfl trivial (wpIn_wide.2 ?_));simp only[ntmps155,List.size_toArray,zO,List.length_nil,Nat.reduceAdd,Nat.reduceSub,Array.replicate_succ,Array.replicate_zero,List.push_toArray,List.append_toArray,List.nil_append,List.cons_append]
 go_upto_region 2 with (fail)
 go_wp2_with fail
 refine(jT s b5 311 _ _).mono ?_;rintro e lt ⟨rfl,rfl⟩;rw[hn];clear X fE hn;rw[hy.out];clear hy
 go_wp2_with fail
 rw[show c+1+1+1+1=c+4 by omega,show c+1+1+1=c+3 by omega,show c+1+1=c+2 by omega];refine wpIn_wide.1 (aC (n:=5) (gf:=235) (lb:=#[Z (W ⟨c+5,0,O⟩),Z (W ⟨c+5+1,0,O⟩),Z (W ⟨c+5+1+1,0,O⟩)]) rfl (λargs wx=>kW args wx)
  iB.out (λk e=>e.elim) (λk e=>by have:=d2.out;omega) (λt v hY d b=>by obtain⟨⟨e,v,_,rfl,_⟩,_⟩:=b;rfl)
  (DcI w c s ad b8 a4 ca a5 bR b2) (λ_ _ _=>False) (λk=>k=s\/k=ad\/k=c+4) (λk b=>?hF0) k2.out ?hI (λ_ _ _ _ b _=>b) (λt cb d b=>⟨_,_,b.rd⟩) (λ_ _ _ _=>trivial) ?round ?done (λ_ _ _ b=>b.elim))
 case hF0=>
  have:=d2.out;refine⟨λe=>e,λe=>?_,by omega,by omega,λ_=>by omega⟩;omega
 case hI=>
  rintro t cb d ky b bq;exact b.step dg.out df.out bq (λk e=>⟨e.1,by have:=d2.out;rcases e.2 with b|b;exact b.elim;omega⟩)
 case round=>
  rintro t cb hY le d K lQ i3 hI ⟨⟨e,v,cT,rfl,S⟩,rfl⟩ jj b9 g;have en:=d2.out;rw[en]at i3 b9;obtain⟨hi,gb,gZ,rfl⟩:∃a n gd,v=Y a n gd:=by obtain⟨a,_,_,gd,b,_⟩:=S;exact⟨_,_,_,b⟩
  gi_wp2
  refine g _ _ ((ξ _ d).alloc _) ?_;intro a2 e2 _ _;rw[en]at e2;have ao:Far (·=c+8+1) d a2:=((ξ (·=c+8+1) d).alloc (J #[V I e.no,V I e.col,Y hi gb gZ] 220)).trans e2;have er:=e2.heap (af d (J #[V I e.no,V I e.col,Y hi gb gZ] 220)) (by omega);generalize hq:d.heap.size=q at er ⊢;have c4:=hI.step dg.out df.out ao (λk e=>⟨λj=>(b9 k j).2.1 e,by omega⟩);have hP:=S.far ao (λk j _ e=>by have:=df.out k j;omega);have ln:=ao.size;have hR:∀k,cb k->k < q:=λk j=>by rw[<-hq];exact hI.lt k j
  have hK:=lt_of_heap er;obtain⟨h4,jb,cm,eq,ka,x,h7,gM,ac,co,hx,ht⟩:=i7.out t e cT;obtain⟨gc,hG⟩:=h5.out e (zL cT);have cf:=c4.rd;rw[aE a5 t e cT]at cf;have hs:Glob a2:=iC.out.far c4.far (λk j e=>by rcases e with rfl|rfl<;>omega);have ef:=tD s ad (b8+3 * t) (a4+1) ca e _ _ x h7 ka a2 cf hP gM ac cm eq gc hG hs kB kl (by have:=ct.out.2.2.1;omega) (by have:=ct.out.2.2.1;subst this;exact ht);have db:IntKind.i64.wrap ((a4:Int)+1)=((a4+1:Nat):Int):=by have:=ct.out.2.2.1;subst this;rfl
  have lc:c+8<=q:=by omega
  have l5:t<=100000:=by have:=ct.out.1;omega
  obtain⟨SX,ft⟩:∃kf,xR x.s=U kf:=⟨_,rfl⟩;unfold scV at ef;rw[ft]at ef;obtain⟨gg,ks⟩:=zx2 ef c4;have f1:=zD (θ co (θ hx ft));obtain⟨g6,l4⟩:=zx2 hR hq;obtain⟨fE,_⟩:=sS c4.bx.1;obtain⟨k1,_⟩:=sS c4.bx.2.1;obtain⟨kd,i0,hV,_⟩:=bv er;obtain⟨fX,fw,f4,f0,fu⟩:=info_parts ru;clear ef c4 hI S hP hs cf co hx ft h4 jb cm eq gM ac ht gc hG cT hR hq ao e2 g jj er
  gi_wp2
  refine⟨trivial,callsIn_wide.2 (gg.out.mono ?_)⟩;rintro hB av ⟨⟨f2,rfl,c2⟩,hh,ab⟩;obtain⟨F,E,M,N,G,L,A,H,z,C,P,rfl⟩:=c2.form;have fR:=ab.size;obtain⟨f,e3⟩:∃q,av.heap.size=q:=⟨_,rfl⟩;have es:Far xO av ((av.alloc (J #[V I x.k,V I x.n,U SX] 30)).alloc (J #[V I F,U E,V I M,V I N,U G,Y L A H,Y z C P] 78)):=((ξ _ av).alloc _).alloc _;have dW:((av.alloc (J #[V I x.k,V I x.n,U SX] 30)).alloc (J #[V I F,U E,V I M,V I N,U G,Y L A H,Y z C P] 78)).heap[f]? =W (J #[V I x.k,V I x.n,U SX] 30 (0,0)):=by rw[<-e3];exact aa _ (af av _)
  have bx:((av.alloc (J #[V I x.k,V I x.n,U SX] 30)).alloc (J #[V I F,U E,V I M,V I N,U G,Y L A H,Y z C P] 78)).heap[f+1]? =W (J #[V I F,U E,V I M,V I N,U G,Y L A H,Y z C P] 78 (0,0)):=ah _ _ _ (by simp[e3]);have kb:((av.alloc (J #[V I x.k,V I x.n,U SX] 30)).alloc (J #[V I F,U E,V I M,V I N,U G,Y L A H,Y z C P] 78)).heap.size=f+2:=by simp[e3]
  have hr:=xS.far es (λ_ _ _ e=>e) _ _ (xS.mono (G':=λk=>a2.heap.size<=k/\k < f) (λk ch d3=>⟨ch,by omega⟩) _ _ c2);have g0:=hh.far es (λe=>e) (λe=>e) (λ_ _ _ e=>e);have hc:Far (λk=>k=s\/k=ad) a2 ((av.alloc (J #[V I x.k,V I x.n,U SX] 30)).alloc (J #[V I F,U E,V I M,V I N,U G,Y L A H,Y z C P] 78)):=ab.step es (λ_ _ e=>e.elim);obtain⟨k4,h6,d6⟩:=zx3 hr g0 hc;have l0:q < f:=by omega
  have ml:a2.heap.size<=f:=by omega
  clear c2 hh ab hc hr g0 es gg fE k1 kd i0 hV
  gi_wp2_with (fail)
  clear e3;generalize ((av.alloc (J #[V I x.k,V I x.n,U SX] 30)).alloc (J #[V I F,U E,V I M,V I N,U G,Y L A H,Y z C P] 78))=u at *;have a0:=ks.out;obtain⟨kv,fY,e5,e4,g2,eM,e7,c5,ei,ga,b4⟩:=a0.row;obtain⟨o,r,rfl⟩:∃m l,kv=Y m t l:=by
   rcases eM.2 with ⟨S,ba⟩|⟨fc,fL,fl,S,_⟩
   ·exact⟨O,0,by rw[S,ba]⟩
   ·exact⟨_,_,S⟩
  obtain⟨m,l,rfl⟩:∃m l,fY=Y m t l:=by
   rcases e7.2 with ⟨S,ba⟩|⟨fc,fL,fl,S,_⟩
   ·exact⟨O,0,by rw[S,ba]⟩
   ·exact⟨_,_,S⟩
  have e6:=a0.lt;have c0:∀k,(Value.slice o t r).ownBlock=W k->k < q:=λk b=>g6.out k (ei k b);have db:∀k,(Value.slice m t l).ownBlock=W k->k < q:=λk b=>g6.out k (c5 k b).1;have e1:∀k,(Value.slice o t r).ownBlock=W k->c+8<=k:=λk b=>(eM.lt k b).1;have ex:∀k,(Value.slice m t l).ownBlock=W k->c+8<=k:=λk b=>(e7.lt k b).1;have dv:=d6.out.heap g2 (by omega);have c9:=am eM d6.out (λk e hB=>by have:=e1 k e;omega);have hl:=am e7 d6.out (λk e hB=>by have:=ex k e;omega);have g3:u.cell? ⟨c+4,5,O⟩=W (Y o t r)/\u.cell? ⟨c+4,6,O⟩=W (Y m t l)/\u.cell? ⟨f,0,O⟩=W (V I x.k)/\u.cell? ⟨f,1,O⟩=W (V I x.n)/\u.cell? ⟨f,2,O⟩=W (U SX)/\u.cell? ⟨f+1,0,O⟩=W (V I F)/\u.cell? ⟨f+1,1,O⟩=W (U E)/\u.cell? ⟨f+1,2,O⟩=W (V I M)/\u.cell? ⟨f+1,3,O⟩=W (V I N)/\u.cell? ⟨f+1,4,O⟩=W (U G)/\u.cell? ⟨f+1,5,O⟩=W (Y L A H)/\u.cell? ⟨f+1,6,O⟩=W (Y z C P):=⟨ae dv 5,ae dv 6,ae dW 0,ae dW 1,ae dW 2,ae bx 0,ae bx 1,ae bx 2,ae bx 3,ae bx 4,ae bx 5,ae bx 6⟩;have bs:∀wx,Far (λk=>(Value.slice o t r).ownBlock=W k\/(Value.slice m t l).ownBlock=W k) u wx->wx.cell? ⟨c+4,5,O⟩=W (Y o t r)/\wx.cell? ⟨c+4,6,O⟩=W (Y m t l)/\wx.cell? ⟨f,0,O⟩=W (V I x.k)/\wx.cell? ⟨f,1,O⟩=W (V I x.n)/\wx.cell? ⟨f,2,O⟩=W (U SX)/\wx.cell? ⟨f+1,0,O⟩=W (V I F)/\wx.cell? ⟨f+1,1,O⟩=W (U E)/\wx.cell? ⟨f+1,2,O⟩=W (V I M)/\wx.cell? ⟨f+1,3,O⟩=W (V I N)/\wx.cell? ⟨f+1,4,O⟩=W (U G)/\wx.cell? ⟨f+1,5,O⟩=W (Y L A H)/\wx.cell? ⟨f+1,6,O⟩=W (Y z C P):=λwx bq=>by
   have X:=bq.heap dv (λe=>by rcases e with e|e;(have:=e1 _ e;omega);have:=ex _ e;omega);have fz:=bq.heap dW (λe=>by rcases e with e|e;(have:=c0 _ e;omega);have:=db _ e;omega);have cv:=bq.heap bx (λe=>by rcases e with e|e;(have:=c0 _ e;omega);have:=db _ e;omega);exact⟨ae X 5,ae X 6,ae fz 0,ae fz 1,ae fz 2,ae cv 0,ae cv 1,ae cv 2,ae cv 3,ae cv 4,ae cv 5,ae cv 6⟩
  have cm:t+1<=maxLen:=by unfold maxLen;omega
  refine aN (λw'=>w'.cell? ⟨c+4,5,O⟩=W (Y o t r)/\w'.cell? ⟨c+4,6,O⟩=W (Y m t l)/\w'.cell? ⟨f,0,O⟩=W (V I x.k)/\w'.cell? ⟨f,1,O⟩=W (V I x.n)/\w'.cell? ⟨f,2,O⟩=W (U SX)/\w'.cell? ⟨f+1,0,O⟩=W (V I F)/\w'.cell? ⟨f+1,1,O⟩=W (U E)/\w'.cell? ⟨f+1,2,O⟩=W (V I M)/\w'.cell? ⟨f+1,3,O⟩=W (V I N)/\w'.cell? ⟨f+1,4,O⟩=W (U G)/\w'.cell? ⟨f+1,5,O⟩=W (Y L A H)/\w'.cell? ⟨f+1,6,O⟩=W (Y z C P)) [11,12,13] (by kernel_rfl) (by kernel_rfl) (λb=>by obtain⟨_,_,b⟩:=b;exact b) ?_;refine ay 10 (by kernel_rfl) (λ_ _ _ _ b=>b) (show (λw'=>w'.cell? ⟨c+4,5,O⟩=W (Y o t r)/\w'.cell? ⟨c+4,6,O⟩=W (Y m t l)/\w'.cell? ⟨f,0,O⟩=W (V I x.k)/\w'.cell? ⟨f,1,O⟩=W (V I x.n)/\w'.cell? ⟨f,2,O⟩=W (U SX)/\w'.cell? ⟨f+1,0,O⟩=W (V I F)/\w'.cell? ⟨f+1,1,O⟩=W (U E)/\w'.cell? ⟨f+1,2,O⟩=W (V I M)/\w'.cell? ⟨f+1,3,O⟩=W (V I N)/\w'.cell? ⟨f+1,4,O⟩=W (U G)/\w'.cell? ⟨f+1,5,O⟩=W (Y L A H)/\w'.cell? ⟨f+1,6,O⟩=W (Y z C P)) u.drew from g3) 8 [0,1,2,5,6,7] _ _ (by kernel_rfl) ?_;iterate 6 (refine Ei ?_;(try go_frame))
  refine xT.done ?_;try dsimp only
  have ej:Far xO u u.drew:=(ξ _ u).drew;generalize hU0:u.drew=dc at ej ⊢;clear hU0 g3;refine aq [3,8] ?_;refine aj rfl (λK g=>?_) (aj rfl (λK g=>?_) (xQ.nil))
  go_simp
  have bk:=ej.alloc (J #[V I x.k,V I x.n,U SX] 30);have a3:=af dc (J #[V I x.k,V I x.n,U SX] 30);refine g.out _ _ (λ_=>bs _ (bk.mono (λk _ e=>e.elim))) ?_;clear g K
  (try go_frame)
  generalize hq9:dc.heap.size=e8 at a3 ⊢;generalize hV9:dc.alloc (J #[V I x.k,V I x.n,U SX] 30)=bw at bk a3 ⊢;clear hV9 hq9;refine aq [4,8] ?_;refine aj rfl (λK g=>?_) (aj rfl (λK g=>?_) (xQ.nil));have b6:=br a3;have b1:=am c9 bk (λ_ _ e=>e);have dp:=bk.size;refine wp_append_lies bw (.tmp 34) (.tmp 36) 28 rfl (c+8) 30 fX _ 3 32 underlying28 fw f4 f0 fu rfl (by decide) (Y o t r) t _ rfl b1 ⟨e8,0,O⟩ 1 1 [V I x.k,V I x.n,U SX] rfl rfl b6 (by simp[Value.oneCell']) (by decide) cm (by omega) (by omega) bw.heap.size rfl ?_;intro R da bn ac al a1 ck;have f5:Far (λk=>(Value.slice o t r).ownBlock=W k) u bn:=(bk.mono (λ_ _ e=>e.elim)).grown al (λk e _=>e);have c6:(Value.slice o t r).ownBlock=W R\/u.heap.size<=R:=by
   rcases a1 with e|e
   ·exact .inl e
   ·exact .inr (by omega)
  clear al a1 b6 b1 dp;have bb:=bs _ (f5.mono (λ_ _ e=>.inl e));refine g.out _ _ (λ_=>bb) ?_;clear g K
  (try go_frame)
  refine ay 10 (by kernel_rfl) (λ_ _ _ _ b=>b) bb 5 [10] _ _ (by kernel_rfl) ?_;iterate 1 (refine Ei ?_;(try go_frame))
  refine xT.done ?_;try dsimp only
  clear bb;refine aq [8] ?_;refine aj rfl (λK g=>?_) xQ.nil
  go_simp
  have bD:=f5.alloc (J #[V I F,U E,V I M,V I N,U G,Y L A H,Y z C P] 78);have y:=af bn (J #[V I F,U E,V I M,V I N,U G,Y L A H,Y z C P] 78);have hv:=ac.alloc (J #[V I F,U E,V I M,V I N,U G,Y L A H,Y z C P] 78);clear ac;have ac:=hv;clear hv;refine g.out _ _ (λ_=>bs _ (bD.mono (λk _ e=>.inl e))) ?_;clear g K
  (try go_frame)
  have dr:=f5.size;generalize hq9:bn.heap.size=fG at y ⊢;generalize hV9:bn.alloc (J #[V I F,U E,V I M,V I N,U G,Y L A H,Y z C P] 78)=cc at bD y ac ⊢;rw[hq9]at dr
  replace ck:R < cc.heap.size:=by rw[<-hV9];simp;omega
  clear hV9 hq9;have ao:=bD;have an:∃d,cc=d:=⟨_,rfl⟩;obtain⟨d0,an⟩:=an;rw[an]at ao ac y ck ⊢;clear an
  rotate_left
  go_simp
  have be:=bk.alloc (J #[V I F,U E,V I M,V I N,U G,Y L A H,Y z C P] 78);have y:=af bw (J #[V I F,U E,V I M,V I N,U G,Y L A H,Y z C P] 78);have hS:=aa (J #[V I F,U E,V I M,V I N,U G,Y L A H,Y z C P] 78) a3;clear a3;have a3:=hS;clear hS;refine g.out _ _ (λ_=>bs _ (be.mono (λk _ e=>e.elim))) ?_;clear g K
  (try go_frame)
  have dr:=bk.size;generalize hq9:bw.heap.size=fG at y ⊢;generalize hV9:bw.alloc (J #[V I F,U E,V I M,V I N,U G,Y L A H,Y z C P] 78)=bn at be y a3 ⊢;rw[hq9]at dr;clear hV9 hq9;refine aq [4] ?_;refine aj rfl (λK g=>?_) xQ.nil;have b6:=br a3;have b1:=am c9 be (λ_ _ e=>e);have dp:=be.size;refine wp_append_lies bn (.tmp 34) (.tmp 36) 28 rfl (c+8) 30 fX _ 3 32 underlying28 fw f4 f0 fu rfl (by decide) (Y o t r) t _ rfl b1 ⟨e8,0,O⟩ 1 1 [V I x.k,V I x.n,U SX] rfl rfl b6 (by simp[Value.oneCell']) (by decide) cm (by omega) (by omega) bn.heap.size rfl ?_;intro R da cc ac al a1 ck;have bD:Far (λk=>(Value.slice o t r).ownBlock=W k) u cc:=(be.mono (λ_ _ e=>e.elim)).grown al (λk e _=>e);have c6:(Value.slice o t r).ownBlock=W R\/u.heap.size<=R:=by
   rcases a1 with e|e
   ·exact .inl e
   ·exact .inr (by omega)
  have dn:=(al.block _ (lt_of_heap y) (λe=>by have:=(c9.lt _ e.symm).2;have:=c0 _ e.symm;omega)).trans y;clear y;have y:=dn;clear dn;clear al a1 b6 b1 dp;have bb:=bs _ (bD.mono (λ_ _ e=>.inl e));refine g.out _ _ (λ_=>bb) ?_;clear g K
  (try go_frame)
  refine ay 10 (by kernel_rfl) (λ_ _ _ _ b=>b) bb 4 [10] _ _ (by kernel_rfl) ?_;iterate 1 (refine Ei ?_;(try go_frame))
  refine xT.done ?_;try dsimp only
  clear bb;have ao:=bD;have an:∃d,cc=d:=⟨_,rfl⟩;obtain⟨d0,an⟩:=an;rw[an]at ao ac y ck ⊢;clear an
  rotate_left
  go_simp
  have bk:=ej.alloc (J #[V I F,U E,V I M,V I N,U G,Y L A H,Y z C P] 78);have y:=af dc (J #[V I F,U E,V I M,V I N,U G,Y L A H,Y z C P] 78);refine g.out _ _ (λ_=>bs _ (bk.mono (λk _ e=>e.elim))) ?_;clear g K
  (try go_frame)
  have dr:=ej.size;generalize hq9:dc.heap.size=fG at y ⊢;generalize hV9:dc.alloc (J #[V I F,U E,V I M,V I N,U G,Y L A H,Y z C P] 78)=bw at bk y ⊢;rw[hq9]at dr;clear hV9 hq9;refine aq [3] ?_;refine aj rfl (λK g=>?_) xQ.nil
  go_simp
  have be:=bk.alloc (J #[V I x.k,V I x.n,U SX] 30);have a3:=af bw (J #[V I x.k,V I x.n,U SX] 30);have gR:=aa (J #[V I x.k,V I x.n,U SX] 30) y;clear y;have y:=gR;clear gR;refine g.out _ _ (λ_=>bs _ (be.mono (λk _ e=>e.elim))) ?_;clear g K
  (try go_frame)
  generalize hq9:bw.heap.size=e8 at a3 ⊢;generalize hV9:bw.alloc (J #[V I x.k,V I x.n,U SX] 30)=bn at be a3 y ⊢;clear hV9 hq9;refine aq [4] ?_;refine aj rfl (λK g=>?_) xQ.nil;have b6:=br a3;have b1:=am c9 be (λ_ _ e=>e);have dp:=be.size;refine wp_append_lies bn (.tmp 34) (.tmp 36) 28 rfl (c+8) 30 fX _ 3 32 underlying28 fw f4 f0 fu rfl (by decide) (Y o t r) t _ rfl b1 ⟨e8,0,O⟩ 1 1 [V I x.k,V I x.n,U SX] rfl rfl b6 (by simp[Value.oneCell']) (by decide) cm (by omega) (by omega) bn.heap.size rfl ?_;intro R da cc ac al a1 ck;have bD:Far (λk=>(Value.slice o t r).ownBlock=W k) u cc:=(be.mono (λ_ _ e=>e.elim)).grown al (λk e _=>e);have c6:(Value.slice o t r).ownBlock=W R\/u.heap.size<=R:=by
   rcases a1 with e|e
   ·exact .inl e
   ·exact .inr (by omega)
  have dn:=(al.block _ (lt_of_heap y) (λe=>by have:=(c9.lt _ e.symm).2;have:=c0 _ e.symm;omega)).trans y;clear y;have y:=dn;clear dn;clear al a1 b6 b1 dp;have bb:=bs _ (bD.mono (λ_ _ e=>.inl e));refine g.out _ _ (λ_=>bb) ?_;clear g K
  (try go_frame)
  refine ay 10 (by kernel_rfl) (λ_ _ _ _ b=>b) bb 4 [10] _ _ (by kernel_rfl) ?_;iterate 1 (refine Ei ?_;(try go_frame))
  refine xT.done ?_;try dsimp only
  clear bb;have ao:=bD;have an:∃d,cc=d:=⟨_,rfl⟩;obtain⟨d0,an⟩:=an;rw[an]at ao ac y ck ⊢;clear an;all_goals (
   have lr:=ck;have l3:=ao.size;have hg:=am hl ao (λk j e=>(c5 k j).2 e);refine aq [9] ?_;refine aj rfl (λK g=>?_) xQ.nil;refine wp_append_lies d0 (.tmp 39) (.tmp 41) 76 rfl (c+8) 78 kn _ 7 104 underlying76 fr kg i1 jw rfl (by decide) (Y m t l) t e5 rfl hg ⟨fG,0,O⟩ 1 1 [V I F,U E,V I M,V I N,U G,Y L A H,Y z C P] rfl rfl (br y) (by simp[Value.oneCell']) (by decide) cm (by omega) (by omega) d0.heap.size rfl ?_;intro d1 i9 ds fn al a1 l9;have el:Far (λk=>(Value.slice o t r).ownBlock=W k\/(Value.slice m t l).ownBlock=W k) u ds:=(ao.mono (λ_ _ e=>.inl e)).grown al (λk e _=>.inr e);have he:=bs _ el;refine g.out _ _ (λ_=>he) ?_;clear g K
   (try go_frame)
   have gO:(Value.slice m t l).ownBlock≠W R:=λe=>by
    rcases c6 with b|b
    ·exact(c5 R e).2 b
    ·have:=db R e;omega
   have eq:R≠d1:=λe=>by
    rcases a1 with b|b
    ·exact gO (e ▸ b)
    ·omega
   have hL:=am ac ((ξ (λk=>(Value.slice m t l).ownBlock=W k) d0).grown al (λk e _=>e)) (λk e b=>by injection e with e;dsimp only at e;subst e;exact gO b);have fv:=el.heap dv (λe=>by rcases e with e|e;(have:=e1 _ e;omega);have:=ex _ e;omega);have li:c+8<=R:=(ac.lt R rfl).1;have mb:c+8<=d1:=(fn.lt d1 rfl).1;have hJ:∀bm:World,bm.heap[c+4]? =W (J #[V I 2,U ⟨#[]⟩,V I 0,V I 0,U ⟨#[]⟩,(Y (W ⟨R,0,O⟩) (t+1) da),(Y (W ⟨d1,0,O⟩) (t+1) i9)] 78 (0,0))->Far (·=c+4) ds bm->
    ∃hd,DcI w c s ad b8 a4 ca a5 bR b2 (t+1) hd bm/\Far cb a2 bm/\∀k,hd k->(cb k\/xO k\/q<=k)/\(True->k < bm.heap.size):=by
    intro bm kc bq;have l7:=kb;have d5:Far (λk=>k=c+4\/(Value.slice o t r).ownBlock=W k\/(Value.slice m t l).ownBlock=W k) u bm:=(el.mono (λ_ _ e=>.inr e)).step bq (λk _ e=>.inl e);have cl:Far (λk=>k=s\/k=ad\/(k=c+4\/(Value.slice o t r).ownBlock=W k\/(Value.slice m t l).ownBlock=W k)) a2 bm:=(d6.out.mono (λk _ e=>by rcases e with e|e;exact .inl e;exact .inr (.inl e))).step d5 (λk _ e=>.inr (.inr e));have hm:Far cb a2 bm:=cl.mono (λk _ e=>by
     rcases e with rfl|rfl|rfl|e|e
     ·exact a0.fR
     ·exact a0.fG
     ·exact a0.f4
     ·exact ei k e
     ·exact(c5 k e).1)
    have c1:∀k,(k=c+4\/(Value.slice o t r).ownBlock=W k\/(Value.slice m t l).ownBlock=W k)->(k=c+4\/c+8<=k)/\k < q:=λk b=>by
     rcases b with b|b|b
     ·exact⟨.inl b,by omega⟩
     ·exact⟨.inr (e1 k b),c0 k b⟩
     ·exact⟨.inr (ex k b),db k b⟩
    have k0:∀k,e4 k->d1≠k/\R≠k:=λk j=>⟨λe=>by
     rcases a1 with b|b
     ·exact(b4 k j).2.2.1 (e ▸ b)
     ·have:=e6 k (b4 k j).1;omega,λe=>by
     rcases c6 with b|b
     ·exact(b4 k j).2.2.2 (e ▸ b)
     ·have:=e6 k (b4 k j).1;omega⟩
    have j9:xU bm (λk=>e4 k\/(a2.heap.size<=k/\k < f)) (b2.take (t+1)) (e5++[V I F,U E,V I M,V I N,U G,Y L A H,Y z C P]):=by
     rw[zG,f1.out.2.1];exact xU.snoc (xS.mono (λ_ b _=>.inr b) _ _ (xS.far d5 (λk j _ e=>by
      have i4:=hK;have:=(c1 k e).2;omega) _ _ k4.out)) _ _ (xU.mono (λ_ b _=>.inl b) _ _ (xU.far cl (λk j _ e=>by
      have ch:=b4 k j;rcases e with e|e|e|e|e
      ·omega
      ·omega
      ·omega
      ·exact ch.2.2.2 e
      ·exact ch.2.2.1 e) _ _ ga))
    have hW:xV (bR.take (t+1))=xV (bR.take t)++[V I x.k,V I x.n,U SX]:=by
     rw[zG,f1.out.1];unfold xV;rw[List.flatMap_append];simp[f1.out.2.2]
    have lR:=hm.size;have l6:=bq.size;have md:=d5.size;have l8:=al.size;have i4:=hK;refine⟨λk=>cb k\/(f<=k/\k < bm.heap.size)\/(a2.heap.size<=k/\k < f),⟨?_,?_,.inl a0.fR,.inl a0.fG,.inl a0.f4,?_,?_,⟨_,_,_,λk=>e4 k\/(a2.heap.size<=k/\k < f),kc,by rw[hW];exact am hL bq (λk e b=>by injection e with e;dsimp only at e;omega),am fn bq (λk e b=>by injection e with e;dsimp only at e;omega),?_,?_,j9,?_⟩,?_,?_⟩,hm,?_⟩
    ·rintro k (b|b|b)
     ·have:=e6 k b;omega
     ·exact b.2
     ·omega
    ·rintro k (b|b|b)
     ·exact a0.fr k b
     ·right;right;omega
     ·right;right;omega
    ·have cS:=a0.nb
     refine⟨?_,?_,?_,?_⟩<;>(intro b;rcases b with b|b|b<;>first|omega|(first|exact cS.1 b|exact cS.2.1 b|exact cS.2.2.1 b|exact cS.2.2.2 b))
    ·have cS:=h6.out.far d5 (λe=>by have:=c1 s e;omega) (λe=>by have:=c1 ad e;omega) (λk j _ e=>by have:=df.out k j;have:=c1 k e;omega)
     rw[show b8+3 * (t+1)=b8+3 * t+3 by omega];exact cS
    ·intro k e
     injection e with e;dsimp only at e
     subst e;refine⟨?_,λe=>?_⟩
     ·rcases a1 with b|b
      ·exact .inl (c5 _ b).1
      ·exact .inr (.inl ⟨by omega,by omega⟩)
     ·injection e with e
      exact eq e
    ·intro k e
     injection e with e;dsimp only at e
     subst e;rcases c6 with b|b
     ·exact .inl (ei _ b)
     ·exact .inr (.inl ⟨by omega,by omega⟩)
    ·rintro k (b|b)
     ·obtain⟨dj,dJ⟩:=k0 k b
      exact⟨.inl (b4 k b).1,(b4 k b).2.1,λe=>by injection e with e;exact dj e,λe=>by injection e with e;exact dJ e⟩
     ·refine⟨.inr (.inr b),by omega,λe=>?_,λe=>?_⟩
      ·injection e with e
       dsimp only at e
       rcases a1 with d4|d4
       ·have:=db _ d4;omega
       ·omega
      ·injection e with e
       dsimp only at e
       rcases c6 with d4|d4
       ·have:=c0 _ d4;omega
       ·omega
    ·exact a0.far.step cl (λk j e=>by
      rw[dg.out]at j;rcases e with e|e|e
      ·exact .inl e
      ·exact .inr e
      ·have:=c1 k e;omega)
    ·have co:=a0.bx
     have ba:∀k,(k=c\/k=c+1\/k=c+2\/k=c+3)->¬(k=s\/k=ad\/(k=c+4\/(Value.slice o t r).ownBlock=W k\/(Value.slice m t l).ownBlock=W k)):=λk j e=>by
      rcases e with e|e|e
      ·omega
      ·omega
      ·have:=c1 k e;omega
     exact⟨cl.heap co.1 (ba _ (.inl rfl)),cl.heap co.2.1 (ba _ (.inr (.inl rfl))),cl.heap co.2.2.1 (ba _ (.inr (.inr (.inl rfl)))),cl.heap co.2.2.2 (ba _ (.inr (.inr (.inr rfl))))⟩
    ·rintro k (b|b|b)
     ·exact⟨.inl b,λ_=>by have:=e6 k b;omega⟩
     ·exact⟨.inr (.inr (by omega)),λ_=>b.2⟩
     ·exact⟨.inr (.inr (by omega)),λ_=>by omega⟩
   have kr:=zD hJ;clear hJ fn ac hL ao el dv hl ga b4 c9 ei c5 al hg y bs dW bx g2 eM e7 a0;obtain⟨iw,kt,_⟩:=he;have hX:=ag fv 5;refine aq [11] ?_;refine aj rfl (λK g=>?_) xQ.nil
   go_simp
   refine g.out _ _ (λb=>absurd (by simp) b) ?_;clear g K
   (try go_frame)
   refine ee (by kernel_rfl) (λ_ _ _ _ b=>b) 1 [12] _ _ (by kernel_rfl) ?_;iterate 1 (refine ax (v:=?_) ?_ ?_;rotate_left;·(intro k5 cS;go_simp;try with_reducible rfl);(try go_frame))
   refine xT.done ?_;try dsimp only
   have e9:=ai fv 5 (Y (W ⟨R,0,O⟩) (t+1) da);have ha:Far (·=c+4) ds (ds.setCell ⟨c+4,5,O⟩ (Y (W ⟨R,0,O⟩) (t+1) da)):=Far.setCell (D:=(·=c+4)) (ξ _ _) (p:=⟨c+4,5,O⟩) (λ_=>rfl) _;generalize hW7:ds.setCell ⟨c+4,5,O⟩ (Y (W ⟨R,0,O⟩) (t+1) da)=la at e9 ha ⊢;clear hW7 iw kt hX fv;have dj:=zF e9 6 rfl;have dJ:=ag e9 6;refine aq [13] ?_;refine aj rfl (λK g=>?_) xQ.nil
   go_simp
   refine g.out _ _ (λb=>absurd (by simp) b) ?_;clear g K;refine aP (by kernel_rfl) ?_ _;exact kr.out _ (ai e9 6 _) (ha.trans (Far.setCell (D:=(·=c+4)) (ξ _ _) (p:=⟨c+4,6,O⟩) (λ_=>rfl) _)))
 case done=>
  rintro cb d hI _ g b9;have en:=d2.out;rw[en]at g b9 ⊢;have h0:=hI;obtain⟨ch,d3,ls,l2,l1,k6,cf,⟨kv,fY,e5,e4,b3,dA,ep,hz,hw,f6,ho⟩,hD,fS⟩:=hI;have dm:=ct.out.2.1;have dl:=ct.out.2.2.2;rw[zR (by omega)]at f6 dA;obtain⟨o,r,rfl⟩:∃m l,kv=Y m T l:=by
   rcases dA.2 with ⟨S,ba⟩|⟨fc,fL,fl,S,_⟩
   ·exact⟨O,0,by rw[S,ba]⟩
   ·exact⟨_,_,S⟩
  rw[List.drop_of_length_le (by rw[ct.out.1];exact η _)]at cf;obtain⟨m,l,rfl⟩:∃m l,fY=Y m T l:=by
   rcases ep.2 with ⟨S,ba⟩|⟨fc,fL,fl,S,_⟩
   ·exact⟨O,0,by rw[S,ba]⟩
   ·exact⟨_,_,S⟩
  have c2:xS d (λk=>c+8 < k) ⟨2,[],Tp.Sc.null,bR,b2⟩ [V I 2,U ⟨#[]⟩,V I 0,V I 0,U ⟨#[]⟩,Y o T r,Y m T l]:=by
   unfold xS;refine⟨Y o T r,Y m T l,e5,rfl,?_,xU.mono (λk j _=>by have b:=ho k j;have:=b9 k b.1;omega) _ _ f6,?_⟩
   ·rw[dl]
    exact(cx dA).mono (λk j _=>by have b:=(dA.lt k j).1;have:=b9 k (hw k j);omega)
   ·rw[dm]
    exact(cx ep).mono (λk j _=>by have b:=(ep.lt k j).1;have:=b9 k (hz k j).1;omega)
  have gl:(λd=>d.cell? ⟨c,0,O⟩=W (Z (W ⟨s,0,O⟩))/\d.cell? ⟨c+4,0,O⟩=W (V I 2)/\d.cell? ⟨c+4,1,O⟩=W (U ⟨#[]⟩)/\d.cell? ⟨c+4,2,O⟩=W (V I 0)/\d.cell? ⟨c+4,3,O⟩=W (V I 0)/\d.cell? ⟨c+4,4,O⟩=W (U ⟨#[]⟩)/\d.cell? ⟨c+4,5,O⟩=W (Y o T r)/\d.cell? ⟨c+4,6,O⟩=W (Y m T l)) d:=⟨ae fS.1 0,ae b3 0,ae b3 1,ae b3 2,ae b3 3,ae b3 4,ae b3 5,ae b3 6⟩;have hC:=nQ s ad _ ca b5 d.drew (cf.far ((ξ xO d).drew) (λe=>e) (λe=>e) (λ_ _ _ e=>e));obtain⟨b0,g5,jW,kk,kh,hQ⟩:=zx6 gl hC c2 cf hD fS;have h1:=zD g;clear gl hC c2 cf hD fS g b3 dA hw ep hz f6 ho ch d3 h0 b9
  go_upto_region 8 with (fail)
  refine wp_region_noPanic ?_;refine ar (λd=>d.cell? ⟨c,0,O⟩=W (Z (W ⟨s,0,O⟩))/\d.cell? ⟨c+4,0,O⟩=W (V I 2)/\d.cell? ⟨c+4,1,O⟩=W (U ⟨#[]⟩)/\d.cell? ⟨c+4,2,O⟩=W (V I 0)/\d.cell? ⟨c+4,3,O⟩=W (V I 0)/\d.cell? ⟨c+4,4,O⟩=W (U ⟨#[]⟩)/\d.cell? ⟨c+4,5,O⟩=W (Y o T r)/\d.cell? ⟨c+4,6,O⟩=W (Y m T l)) [4,5] (by kernel_rfl) ?_;refine aJ (by kernel_rfl) (λ_ _ _ _ b=>b) (show (λd=>d.cell? ⟨c,0,O⟩=W (Z (W ⟨s,0,O⟩))/\d.cell? ⟨c+4,0,O⟩=W (V I 2)/\d.cell? ⟨c+4,1,O⟩=W (U ⟨#[]⟩)/\d.cell? ⟨c+4,2,O⟩=W (V I 0)/\d.cell? ⟨c+4,3,O⟩=W (V I 0)/\d.cell? ⟨c+4,4,O⟩=W (U ⟨#[]⟩)/\d.cell? ⟨c+4,5,O⟩=W (Y o T r)/\d.cell? ⟨c+4,6,O⟩=W (Y m T l)) d.drew from b0.out) 3 [0,1,2] _ _ (by kernel_rfl) ?_;iterate 3 (refine Ei ?_;(try go_frame))
  refine xT.done ?_;try dsimp only
  refine aq [3] ?_;refine aj rfl (λK g=>?_) xQ.nil
  go_simp
  refine g5.out.mono ?_;rintro e av ⟨rfl,gQ⟩;have ab:Far xO d av:=((ξ _ d).drew).below gQ;have fR:(λd=>d.cell? ⟨c,0,O⟩=W (Z (W ⟨s,0,O⟩))/\d.cell? ⟨c+4,0,O⟩=W (V I 2)/\d.cell? ⟨c+4,1,O⟩=W (U ⟨#[]⟩)/\d.cell? ⟨c+4,2,O⟩=W (V I 0)/\d.cell? ⟨c+4,3,O⟩=W (V I 0)/\d.cell? ⟨c+4,4,O⟩=W (U ⟨#[]⟩)/\d.cell? ⟨c+4,5,O⟩=W (Y o T r)/\d.cell? ⟨c+4,6,O⟩=W (Y m T l)) av:=⟨ab.at b0.out.1 (id),ab.at b0.out.2.1 (id),ab.at b0.out.2.2.1 (id),ab.at b0.out.2.2.2.1 (id),ab.at b0.out.2.2.2.2.1 (id),ab.at b0.out.2.2.2.2.2.1 (id),ab.at b0.out.2.2.2.2.2.2.1 (id),ab.at b0.out.2.2.2.2.2.2.2 (id)⟩;have f8:=ab.heap hQ.out.2.2.1 id;have hF:=ab.heap hQ.out.2.2.2 id;refine g.out _ _ (λ_=>fR) ?_;clear g K
  (try go_frame)
  obtain⟨it,hZ,hT,i6,h2,jL,hU,iY,i8,ie,ih,k3,i2,h8⟩:=bd f8;obtain⟨⟨c3,h9⟩,hA,hk,g1⟩:=nu f8 hF (by omega) (V I 2) (U ⟨#[]⟩) (V I 0) (V I 0) (U ⟨#[]⟩) (Y o T r) (Y m T l) .nilIface;have gJ:=(ab.mono (D':=λk=>k=c+2\/k=c+3) (λ_ _ e=>e.elim)).trans g1;have hf:=zD (θ hA (θ hk gJ));clear hA hk g1 gJ f8 hF gQ ab fR g5;refine aq [4] ?_;refine aj rfl (λK g=>?_) xQ.nil
  go_simp
  refine g.out _ _ (λb=>absurd (by simp) b) ?_;clear g K
  (try go_frame)
  refine aq [5] ?_;refine aj rfl (λK g=>?_) xQ.nil
  go_simp
  refine g.out _ _ (λb=>absurd (by simp) b) ?_;clear g K
  (try go_frame)
  refine aP (by kernel_rfl) (NoPanic.normal ?_) _;obtain⟨e0,eg,dC⟩:=hf.out;have hp:=dC.heap h1.out (by omega);have hu:=xS.far dC (λk (j:c+8 < k) _ e=>by omega) _ _ jW.out;have gk:=kk.out.far dC (by omega) (by omega) (λk j _ e=>by have:=df.out k j;omega);have gx:=kh.out.step dC (λk j e=>by have:=dg.out;omega);have hj:=zD (θ e0 (θ eg (θ hp (θ hu (θ gk gx)))));clear e0 eg dC hp hu gk gx hf it hZ hT i6 h2 jL hU iY i8 ie ih k3 i2 h8 c3 h9
  go_wp2_with fail
  refine au (q:=c+8) rfl hj.out.2.2.1 ?_;intro ky di;obtain⟨e0,eg,_,jK,h3,iv⟩:=hj.out;refine⟨.tuple #[γ #[V I 2,U ⟨#[]⟩,V I 0,V I 0,U ⟨#[]⟩,Y o T r,Y m T l],.nilIface],dG results155 _ (c+2) (c+3) _ _ _ (di.heap e0 (by omega)) rfl (di.heap eg (by omega)) rfl rfl,⟨_,rfl,xS.mono (λk j _=>by have:=dg.out;show w.heap.size<=k;omega) _ _ (xS.far di (λk (j:c+8 < k) _ e=>by omega) _ _ jK)⟩,h3.far di (by omega) (by omega) (λk j _ e=>by have:=df.out k j;omega),iv.step di (λk j e=>by have:=dg.out;omega)⟩
end
theorem wl(a:World):(Instr.typeAssert (.iface 311 (γ #[])) 308 310 true).run π a=.ok (.tuple #[γ #[],β false]) a:=by kernel_rfl
theorem qV(c d a9:Nat)(f:NS)(e:Tp.En)(al:List Tp.En)(t:Tp.Tree)(w:World)(i:yp w c d a9 f (e::al))(R:AX true e.l)(bR:c < w.heap.size)(a6:Nat)
(S:∀l,Far xO w l->Calls π 155 #[Z (W ⟨c,0,O⟩),V I e.col,V I 1] l λx w'=>(∃g:List Value,x=ρ (.tuple #[γ g.toArray,.nilIface])/\xS w' (New l) t g)/\yp w' c d a6 f []/\Far (λk=>k=c\/k=d) l w'):
 Calls π 107 #[Z (W ⟨c,0,O⟩),V I (-1),V I 1] w λx w'=>(∃g:List Value,x=ρ (.tuple #[γ g.toArray,.nilIface])/\xS w' (New w) t g)/\yp w' c d a6 f []/\Far (λk=>k=c\/k=d) w w':=by
 have E:Far xO w (w.alloc (J #[V I 0,U ⟨#[]⟩,V I 0,V I 0,U ⟨#[]⟩,Y O 0 0,Y O 0 0] 78)):=(ξ _ w).alloc _;have a4:=af w (J #[V I 0,U ⟨#[]⟩,V I 0,V I 0,U ⟨#[]⟩,Y O 0 0,Y O 0 0] 78);have ac:=i.far E (λe=>e) (λe=>e) (λ_ _ _ e=>e);obtain⟨v,C,ad⟩:=cM c d a9 f e al _ ac;obtain⟨M,N,bm,rfl⟩:∃a n P,v=Y a n P:=by obtain⟨a,_,_,P,i,_⟩:=C;exact⟨_,_,_,i⟩
 obtain⟨a0,bw⟩:=ji R;have ba:zc e.l=.iface 311 (γ #[]):=a0;have c0:=wl;have c6:=uy;have bR:=i.lt;obtain⟨av,p,bD,co,be,bb⟩:=zx6 ad E a4 C ba S;have ck:=zD i.tgl;clear ad ac E a4 C a0 ba i S R
 go_enter func107,ntmps107
 go_wp2_with fail
 refine av.out.mono ?_;rintro x F ⟨rfl,s⟩;have u:Far xO (w.alloc (J #[V I 0,U ⟨#[]⟩,V I 0,V I 0,U ⟨#[]⟩,Y O 0 0,Y O 0 0] 78)) (F.alloc (J #[V I e.no,V I e.col,Y M N bm] 220)):=(Far.of_below s _).alloc _;have G:=af F (J #[V I e.no,V I e.col,Y M N bm] 220);have a1:=co.out.far u (λ_ _ _ e=>e);have z:=cr e.no e.col _ e.l f _ a1 bw;rw[be.out]at z;have cv:w.heap.size < F.heap.size:=by have:=s.size;simp at this;omega
 obtain⟨ao,bk,D⟩:=zx3 z u G;clear s u G a1 z av be
 go_wp2_with fail
 refine ao.out.mono ?_;rintro x b0 ⟨rfl,y⟩;have ab:=bk.out.below y;have X:=(y.block _ (lt_of_heap D.out)).trans D.out;have j:=ab.alloc (J #[] 311);have H:=aa (J #[] 311) X;have T:=j.heap bD.out (λe=>e);have a5:=bb.out (b0.alloc (J #[] 311)) (p.out.trans j);obtain⟨ch,b1,bx,_⟩:=bv H;obtain⟨an,A⟩:=zx2 a5 T;have a2:=zD (p.out.trans j);have da:=(p.out.trans j).size;clear y ab X j H T a5 ao bk D bb
 go_wp2_with fail
 refine an.out.mono ?_;rintro x w5 ⟨⟨g,rfl,q⟩,L,r⟩;obtain⟨k,cf,cm,bn,b2,b5,b6,cl,cc,b8,bs,rfl⟩:=q.form;have b:=r.heap A.out (by omega);have a3:=(a2.out.mono (D':=λk=>k=c\/k=d) (λ_ _ e=>e.elim)).trans r;have c2:=zF b 0 rfl;have dc:=ag b 0;have c5:=zF b 1 rfl;have c4:=ag b 1;have ct:=zF b 2 rfl;have dj:=ag b 2;have c3:=zF b 3 rfl;have cT:=ag b 3;have c9:=zF b 4 rfl;have di:=ag b 4;have db:=zF b 5 rfl;have df:=ag b 5;have c1:=zF b 6 rfl;have dg:=ag b 6;obtain⟨b3,b4,b9,cb⟩:=zx4 b q L a3;have cS:=lt_of_heap A.out;have bq:∀k,f k->k < w5.heap.size->¬k=w.heap.size:=λk m _ e=>by have:=ck.out k m;omega
 clear b q L a3 r an A a2 ch b1 bx
 go_wp2_with fail
 obtain⟨ca,o⟩:=aG b3.out (V I k) (U cf) (V I cm) (V I bn) (U b2) (Y b5 b6 cl) (Y cc b8 bs);exact bodyPost_ret (aO results107 _ _ _ _ ca rfl rfl) rfl ⟨⟨_,rfl,xS.mono (λk (m:_<=k) _=>by show w.heap.size<=k;omega) _ _ (xS.far o (λk (m:_<=k) _ e=>by omega) _ _ b4.out)⟩,b9.out.far o (by omega) (by omega) bq,cb.out.step o (λk m e=>by omega)⟩
section
attribute [local go_sem] ak
theorem tK(b d j:Nat)(g:NS)(e:Tp.En)(c:List Tp.En)(t:Tp.Tree)(w:World)(l:yp w b d j g (e::c))(p:∀x∈e::c,(∀t∈x.l,zf t)/\x.l.length<=100000)(v:Glob w)(s:10<=b)(E:10<=d)(D:(e::c).length<=100000)(a:Tp.bread (e::c)=W t):
 Calls π 107 #[Z (W ⟨b,0,O⟩),V I (-1),V I 1] w λx w'=>(∃r:List Value,x=ρ (.tuple #[γ r.toArray,.nilIface])/\xS w' (New w) t r)/\(∃C,yp w' b d C g [])/\Far (λk=>k=b\/k=d) w w':=by
 unfold Tp.bread at a;by_cases q:Tp.isDash e.l=true
 ·simp only[q,if_true]at a
  cases a
 ·simp only[q,if_false,Bool.false_eq_true]at a
  by_cases i:Tp.isKey e.l=true
  ·simp only[i,if_true]at a
   obtain⟨⟨z,A⟩,F,rfl⟩:=zN.1 a;refine(qV b d j g e c _ w l ⟨ip i,λ_=>i⟩ l.lt.1 _ (λy u=>uj b d j 1 rfl g (e::c) z A e.col y (l.far u (λe=>e) (λe=>e) (λ_ _ _ e=>e)) p (v.far u (λ_ _ e=>e)) s E F D)).mono ?_;rintro x w' ⟨n,m,o⟩;exact⟨n,⟨_,m⟩,o⟩
  ·simp only[i,if_false,Bool.false_eq_true]at a
   by_cases f:(Tp.isPl e.l&&c.isEmpty)=true
   ·simp only[f,if_true]at a
    rw[zQ,List.isEmpty_iff]at f;obtain⟨f,rfl⟩:=f;refine(ko b d j g e [] (-1) 1 t w l f (p e (by simp)).1 (p e (by simp)).2 v s (by omega) a).mono ?_;rintro x w' ⟨n,m,o⟩;exact⟨n,⟨_,m⟩,o.mono (λ_ _ e=>.inl e)⟩
   ·simp only[f,if_false,Bool.false_eq_true]at a
    cases a
theorem lI(b d T:Nat)(C:NS)(e:Tp.En)(f:List Tp.En)(t:Tp.Tree)(w:World)(c:yp w b d T C (e::f))(bb:∀x∈e::f,(∀t∈x.l,zf t)/\x.l.length<=100000)(a1:Glob w)(cT:10<=b)(cl:10<=d)(bn:(e::f).length<=100000)(ad:Tp.bread (e::f)=some t):
 Calls π 74 #[Z (some ⟨b,0,O⟩)] w λx w'=>(∃G:List Value,x=ρ (.tuple #[γ G.toArray,.nilIface])/\xS w' (New w) t G)/\Far (λk=>k=b\/k=d) w w':=by
 obtain⟨q,F⟩:∃q,w.heap.size=q:=⟨_,rfl⟩;have ab:Far xO w (w.alloc (J #[V I 0,U ⟨#[]⟩,V I 0,V I 0,U ⟨#[]⟩,Y O 0 0,Y O 0 0] 78)):=(ξ _ w).alloc _;have b1:(w.alloc (J #[V I 0,U ⟨#[]⟩,V I 0,V I 0,U ⟨#[]⟩,Y O 0 0,Y O 0 0] 78)).heap[q]? =some (J #[V I 0,U ⟨#[]⟩,V I 0,V I 0,U ⟨#[]⟩,Y O 0 0,Y O 0 0] 78 (0,0)):=by rw[<-F];exact af w _
 have R:(w.alloc (J #[V I 0,U ⟨#[]⟩,V I 0,V I 0,U ⟨#[]⟩,Y O 0 0,Y O 0 0] 78)).heap.size=q+1:=by rw[<-F];exact Array.size_push ..
 have a3:=c.far ab (λe=>e) (λe=>e) (λ_ _ _ e=>e);obtain⟨v,bD,a9⟩:=cM b d T C e f _ a3;obtain⟨M,N,X,rfl⟩:∃a n a2,v=Y a n a2:=by obtain⟨a,_,_,a2,c,_⟩:=bD;exact⟨_,_,_,c⟩
 have cf:=c.lt;have S:=c.tgl;rw[F]at cf S;have b5:=λW (a5:Far xO w W)=>tK b d T C e f t W (c.far a5 (λe=>e) (λe=>e) (λ_ _ _ e=>e)) bb (a1.far a5 (λ_ _ e=>e)) cT cl bn ad;obtain⟨bm,cc,cb,a0,an,dr⟩:=zx6 a9 ab b1 b5 F S;have ca:=zD R;clear a9 ab b1 b5 a3 bD c bb a1 ad S bn R
 go_enter func74,ntmps74
 go_wp2_with fail
 refine bm.out.mono ?_;rintro x ac ⟨rfl,ba⟩;have E:Far xO (w.alloc (J #[V I 0,U ⟨#[]⟩,V I 0,V I 0,U ⟨#[]⟩,Y O 0 0,Y O 0 0] 78)) (ac.alloc (J #[V I e.no,V I e.col,Y M N X] 220)):=(Far.of_below ba _).alloc _;have H:=cc.out.trans E;have be:=E.heap cb.out id;have c5:=E.size;have bw:=a0.out _ H;obtain⟨ao,al,b4⟩:=zx3 bw H be;clear ba E H be bw bm a0
 go_wp2_with fail
 refine ao.out.mono ?_;rintro x w5 ⟨⟨G,rfl,P⟩,⟨cS,av⟩,D⟩;obtain⟨p,l,z,A,y,u,j,r,i,o,g,rfl⟩:=P.form;obtain⟨co,c0⟩:∃q,w5.heap.size=q:=⟨_,rfl⟩;have s:Far xO w5 (w5.alloc (J #[V I p,U l,V I z,V I A,U y,Y u j r,Y i o g] 78)):=(ξ _ w5).alloc _;have bs:(w5.alloc (J #[V I p,U l,V I z,V I A,U y,Y u j r,Y i o g] 78)).heap[co]? =some (J #[V I p,U l,V I z,V I A,U y,Y u j r,Y i o g] 78 (0,0)):=by rw[<-c0];exact af w5 _
 have dc:=D.size;have b3:=je b d cS C _ (av.far s (λe=>e) (λe=>e) (λ_ _ _ e=>e));have b0:=(al.out.mono (D':=λk=>k=b\/k=d) (λ_ _ e=>e.elim)).trans (D.step s (λ_ _ e=>e.elim));obtain⟨bq,bx,bk⟩:=zx3 b3 b0 bs;have a6:=zD (s.heap (D.heap b4.out (by omega)) id);have b8:=zD (xS.far s (λ_ _ _ e=>e) _ _ P);have R:=ca.out;have ds:q+1<=(ac.alloc (J #[V I e.no,V I e.col,Y M N X] 220)).heap.size:=by omega
 clear P av D s bs b3 b0 ao al b4;generalize (ac.alloc (J #[V I e.no,V I e.col,Y M N X] 220))=cv at *
 go_wp2_with fail
 refine bq.out.mono ?_;rintro x b9 ⟨rfl,b6⟩;have m:Far xO (w5.alloc (J #[V I p,U l,V I z,V I A,U y,Y u j r,Y i o g] 78)) (b9.alloc (J #[V I 0,V I 0,Y O 0 0] 220)):=(Far.of_below b6 _).alloc _;have bR:=m.heap bk.out id;have L:=m.heap a6.out id;obtain⟨c9,dp,c6,dl,db,di,dJ,_⟩:=bd bR;obtain⟨c4,dg,c1,da,dj,dm,c3,dn,df,dW,c2,dC,dv,dA⟩:=bd L;have cm:=zD (bx.out.step m (λ_ _ e=>e.elim));have ck:=zD L;have ch:=zD (xS.far m (λ_ _ _ e=>e) _ _ b8.out);clear b6 m bR L bq bx bk a6 b8
 go_wp2_with fail
 obtain⟨ct,b2⟩:=aG ck.out (V I p) (U l) (V I z) (V I A) (U y) (Y u j r) (Y i o g);exact bodyPost_ret (aO results74 _ _ _ _ ct rfl rfl) rfl ⟨⟨_,rfl,xS.mono (λk (a4:_<=k) _=>by have:=an.out;show w.heap.size<=k;omega) _ _ (xS.far b2 (λk (a4:cv.heap.size<=k) _ e=>by omega) _ _ ch.out)⟩,cm.out.step b2 (λk a4 e=>by have:=an.out;omega)⟩
end
theorem vE:(prog.info? 220).map (λi=>(i.zero,i.size,i.bytes))=W (W (γ #[V I 0,V I 0,Y O 0 0]),3,40):=by kernel_rfl
theorem x9.mono{b G':NS}{w:World}(f:∀k,b k->k < w.heap.size->G' k):∀(d:List Tp.En) (a:List Value),x9 w b d a->x9 w G' d a
 | [],a,h=>by unfold x9 at h ⊢;exact h
 |e::r,a,h=>by
  unfold x9 at h ⊢;obtain⟨v,c,i,g,j⟩:=h;exact⟨v,c,i.mono f,g,x9.mono f r c j⟩
theorem x9.snoc{w:World}{c:NS}{e:Tp.En}{v:Value}(d:Row w c e.l.length v (xZ e.l)):∀(f:List Tp.En) (b:List Value),x9 w c f b->x9 w c (f++[e]) (b++[V I e.no,V I e.col,v])
 | [],b,hk=>by
  unfold x9 at hk;subst hk;rw[List.nil_append,List.nil_append];unfold x9;exact⟨v,[],d,rfl,by unfold x9;rfl⟩
 |y::r,b,hk=>by
  unfold x9 at hk;obtain⟨a,g,j,rfl,i⟩:=hk;rw[List.cons_append];unfold x9;exact⟨a,_,j,rfl,x9.snoc d r g i⟩
theorem eH:∀(a:List Ln.Line) (i:Nat) (x:Ln.Line),a[i]? =W x->(ye a)[i * 3]? =W (V I x.no)/\(ye a)[i * 3+1]? =W (V I x.ind)/\(ye a)[i * 3+2]? =W (xR x.s)
 | [],i,x,h=>by simp at h
 |y::r,0,x,h=>by
  simp at h
  subst h;exact⟨rfl,rfl,rfl⟩
 |y::r,i+1,x,h=>by
  obtain⟨c,b,d⟩:=eH r i x (by simpa using h);have e:ye (y::r)=V I y.no::V I y.ind::U ⟨y.s.toArray⟩::ye r:=rfl;rw[e,show (i+1) * 3=i * 3+3 by omega,show i * 3+3+1=(i * 3+1)+3 by omega,show i * 3+3+2=(i * 3+2)+3 by omega];exact⟨c,b,d⟩
theorem Row.ln{f:NS}{w:World}{n i:Nat}{v:Value}{a:List Ln.Line}{x:Ln.Line}(r:Row w f n v (ye a))(p:a[i]? =W x):∃g o cap,v=Y (W ⟨g,o,O⟩) n cap/\f g/\g < w.heap.size/\w.cell? ⟨g,o+i * 3,O⟩=W (V I x.no)/\w.cell? ⟨g,o+i * 3+1,O⟩=W (V I x.ind)/\w.cell? ⟨g,o+i * 3+2,O⟩=W (xR x.s):=by
 obtain⟨u,g,o,cap,k,t,m,j⟩:=r;obtain⟨c,s,l⟩:=eH a i x p;have d:ye a≠[]:=λe=>by rw[e]at c;simp at c
 obtain⟨rfl,q,b⟩:=j d;exact⟨g,o,cap,k,m d,q,b _ _ c,b _ _ s,b _ _ l⟩
theorem jq:∀(d:List Ln.Line) (a:List Tp.En),Tp.ents d=W a->a.length=d.length
 | [],a,h=>by cases h;rfl
 |x::r,a,h=>by
  unfold Tp.ents at h;cases b:Tp.toks 9000 0 true 0 x.s with
  |none=>simp[b]at h
  |some t=>
   cases c:Tp.ents r with
   |none=>simp[b,c]at h
   |some es'=>
    simp only[b,c]at h;split at h
    ·cases h
    ·cases h;simp[jq r es' c]
theorem rS:∀(f:List Ln.Line) (b:List Tp.En) (i:Nat) (x:Ln.Line),Tp.ents f=W b->f[i]? =W x->∃a,Tp.toks 9000 0 true 0 x.s=W a/\a≠[]/\b[i]? =W ⟨x.no,x.ind,a⟩
 | [],b,i,x,h,hx=>by simp at hx
 |y::r,b,i,x,h,hx=>by
  unfold Tp.ents at h;cases c:Tp.toks 9000 0 true 0 y.s with
  |none=>simp[c]at h
  |some t=>
   cases d:Tp.ents r with
   |none=>simp[c,d]at h
   |some es'=>
    simp only[c,d]at h;split at h
    ·cases h
    ·rename_i hne
     cases h
     match i with
     |0=>
      simp at hx
      subst hx;exact⟨t,c,λe=>hne (by rw[e];rfl),rfl⟩
     |i+1=>
      obtain⟨a,j,g,k⟩:=rS r es' i x d (by simpa using hx);exact⟨a,j,g,by simpa using k⟩
theorem tF(g:List Ln.Line)(m:List Tp.En)(v:Value)(b3:NS)(w:World)(ad:Row w b3 g.length v (ye g))(d4:∀k,b3 k->k < w.heap.size)(ei:g.length<=10000)(dc:∀x∈g,0<=x.ind/\x.ind<=8000)(b8:∀x∈g,x.s.length<=100000/\Ln.right x.s=true/\Ln.plainB x.s=true)(bn:Tp.ents g=W m)(cS:∀x∈m,x.l.length<=100000)(a0:Glob w):
 Calls π 73 #[v] w λe w'=>(∃bk n c,e=ρ (.tuple #[bk,.nilIface])/\w'.ownsRow w.heap.size 220 3 bk m.length n/\x9 w' c m n/\(∀k,c k->w.heap.size<=k/\k < w'.heap.size/\bk.ownBlock≠W k))/\Below w.heap.size w w':=by
 obtain⟨d1,ej,ds,ep,eg⟩:=info_parts vE;obtain⟨eM,e4,rfl,_⟩:=ad.form;have bm:=jq g m bn;have c4:=λi x=>rS g m i x bn;generalize hN:g.length=G at ad ei bm ⊢;obtain⟨a,M⟩:∃a,w.heap.size=a:=⟨_,rfl⟩;have dC:10<=a:=by rw[<-M];exact a0.1
 rw[M];obtain⟨da,ef,d0,dv⟩:=zx4 ad dc b8 c4;have S:=zD (θ bm hN);obtain⟨el,d5,L⟩:=zx3 cS a0 M;clear ad dc b8 c4 bn cS a0 bm hN d4 M
 go_enter func73,ntmps73
 go_wp2_with fail
 go_loopw [14] (λbb wr=>∃t:Nat,bb=V I (t:Int)/\t<=G/\Below a w wr) (λbb _=>G - (Lib.intOf bb).toNat)
 case atStart=>exact⟨0,rfl,z_ _,by rw[<-L.out];exact ζ _ _⟩
 case round=>
  obtain⟨t,rfl,e7,z⟩:=hrel;by_cases b1:t < G
  ·obtain⟨x,q⟩:∃x,g[t]? =W x:=⟨_,zE (by rw[S.out.2];exact b1)⟩
   obtain⟨a3,dm⟩:=ef.out x (zL q);obtain⟨er,dW,d6,a1,dJ,dp,c6,c2,N⟩:=(da.out.below (by rw[L.out];exact z)).ln q;injection a1 with e11 e12 e13;clear e12;subst e11 e13;obtain⟨SX,y⟩:∃a4,xR x.s=U a4:=⟨_,rfl⟩;rw[y]at N;have a3:¬x.ind < 0:=by omega
   have dm:¬8000 < x.ind:=by omega
   have e5:(t:Int) < (G:Int):=by omega
   have e3:(0:Int)<=(t:Int):=by omega
   have an:=zD (z.alloc (Nat.le_trans (by rw[<-L.out];exact η _) z.size) (J #[V I x.no,V I x.ind,U SX] 140));clear z y q
   go_wp2_with fail
   go_roundw
   case rel=>exact⟨t+1,by go_num,b1,an.out⟩
   case measure=>simp[Lib.intOf];omega
  ·obtain rfl:t=G:=by omega
   have a3:¬(t:Int) < (t:Int):=by omega
   have an:=zD z;clear z
   go_wp2_with fail
   go_loopw [6,31] (λdr ba wr=>∃(i:Nat) (f:Option Addr) (o p:Nat) (n:List Value) (c:NS),dr=Y f o p/\ba=V I (i:Int)/\i<=t/\wr.ownsRow a 220 3 (Y f o p) i n/\x9 wr c (m.take i) n/\(∀k,c k->a<=k/\k < wr.heap.size/\(Value.slice f o p).ownBlock≠W k)/\Below a w wr) (λ_ ba _=>t - (Lib.intOf ba).toNat)
   case atStart=>exact⟨0,O,0,0,[],λ_=>False,rfl,rfl,z_ _,World.ownsRow_nil _ _ _ _,by unfold x9;rfl,λ_ d=>d.elim,an.out⟩
   case round=>
    obtain⟨i,f,o,p,n,c,rfl,rfl,e6,ab,H,T,s⟩:=hrel;by_cases dg:i < t
    ·obtain⟨x,q⟩:∃x,g[i]? =W x:=⟨_,zE (by rw[S.out.2];exact dg)⟩
     obtain⟨ck,b0,bD⟩:=d0.out x (zL q);obtain⟨a2,cv,bR,be⟩:=dv.out i x q;have c5:=el.out _ (zL be);obtain⟨er,dW,d6,a1,dJ,dp,c6,c2,N⟩:=(da.out.below (by rw[L.out];exact s)).ln q;injection a1 with e11 e12 e13;clear e12;subst e11 e13;have ao:a<=wr.heap.size:=Nat.le_trans (by rw[<-L.out];exact η _) s.size;have b4:Glob (wr.alloc (J #[V I x.no,V I x.ind,xR x.s] 140)):=d5.out.keep (s.alloc ao _) dC;have P:=lM ⟨x.s.toArray⟩ ck b0 bD 9000 a2 cv c5 _ b4;have bx:=s.alloc ao (J #[V I x.no,V I x.ind,xR x.s] 140);have X:=af wr (J #[V I x.no,V I x.ind,xR x.s] 140);have ac:(wr.alloc (J #[V I x.no,V I x.ind,xR x.s] 140)).heap.size=wr.heap.size+1:=by simp
     obtain⟨SX,y⟩:∃a4,xR x.s=U a4:=⟨_,rfl⟩;have ct:(⟨x.s.toArray⟩:ByteArray)=SX:=by injection y
     rw[ct]at P;rw[y]at N P bx X ac;obtain⟨es,eq,dj,_⟩:=bv X;obtain⟨r,bq⟩:∃d3,a2.length=d3:=⟨_,rfl⟩;have e2:¬r=0:=by rw[<-bq];exact λe=>bR (List.length_eq_zero_iff.1 e)
     have fn:((r:Int)==0)=false:=by simp;omega
     have fl:(i:Int) < (t:Int):=by omega
     have e1:(0:Int)<=(i:Int):=by omega
     have c3:m.take (i+1)=m.take i++[⟨x.no,x.ind,a2⟩]:=by rw[zG,be];rfl
     obtain⟨a9,ca,ek,cm,av,db⟩:=zx6 ab H T bx X P;obtain⟨dl,c1⟩:=zx2 c3 bq;clear ab H T s bx X P c3 y ct q ck b0 bD cv bR be c5 b4;clear bq
     go_wp2_with fail
     refine db.out.mono ?_;rintro e b ⟨⟨v,rfl,cT⟩,F⟩;have R:=az cT;rw[c1.out]at R;obtain⟨u,C,rfl,_⟩:=R.form;have b9:Far xO wr b:=((ξ _ wr).alloc _).below F;have cc:=(F.block _ (lt_of_heap av.out)).trans av.out;obtain⟨e0,e8,ex,_⟩:=bv cc;have cb:=cm.out.trans (F.mono (by rw[ac];omega));have d2:=F.size;rw[ac]at d2;have a5:Far xO b (b.alloc (J #[V I x.no,V I x.ind,Y u r C] 220)):=(ξ _ b).alloc _;have a6:=b9.trans a5;have b5:=zD (am a9.out a6 (λ_ _ e=>e));have df:=zD (x9.far a6 (λ_ _ _ e=>e) _ _ ca.out);have ch:=zD ((R.mono (G':=λk=>wr.heap.size<=k/\k < b.heap.size) (λk (en:_<=k) h2=>⟨by rw[ac]at en;omega,h2⟩)).far a5 (λ_ _ _ e=>e));have cf:=zD (cb.alloc (by omega) (J #[V I x.no,V I x.ind,Y u r C] 220));have b6:=λk e=>(a9.out.lt k e);have b2:=zD b6;clear b6 F cT R cc cb b9 a5 a6 a9 ca db cm av es eq dj c6 c2 N
     go_wp2_with (at_builtin;refine wpList_append_lies _ rfl (.tmp 56) (.tmp 63) 145 rfl a 220 d1 _ 3 40 underlying145 ej ds ep eg rfl (by decide) (Y f o p) i _ rfl b5.out ⟨b.heap.size,0,O⟩ 1 1 [V I x.no,V I x.ind,Y u r C] rfl rfl (λj fc dn=>by rw[gK];exact(ae (af b _) j).trans (by simpa using dn)) (by simp[Value.oneCell']) (by omega) (by unfold maxLen;omega) (by omega) (by simp;omega) _ rfl ?_;intro gg cap w5 cl di co e9)
     have E:Far (λk=>(Value.slice f o p).ownBlock=W k) (b.alloc (J #[V I x.no,V I x.ind,Y u r C] 220)) w5:=(ξ _ _).grown di (λk e _=>e);have bs:(b.alloc (J #[V I x.no,V I x.ind,Y u r C] 220)).heap.size=b.heap.size+1:=by simp
     rw[bs]at co;have dA:=E.size;rw[bs]at dA;have D:∀k,(c k\/(wr.heap.size<=k/\k < b.heap.size))->a<=k/\k < b.heap.size/\¬(Value.slice f o p).ownBlock=W k:=λk l=>by
      rcases l with d|d
      ·have:=ek.out k d
       exact⟨this.1,by omega,this.2.2⟩
      ·exact⟨by omega,d.2,λe=>by have:=(b2.out k e).2;omega⟩
     have c0:x9 w5 (λk=>c k\/(wr.heap.size<=k/\k < b.heap.size)) (m.take (i+1)) (n++[V I x.no,V I x.ind,Y u r C]):=by
      rw[dl.out];refine x9.snoc ?_ _ _ (x9.mono (λ_ d _=>.inl d) _ _ (x9.far E (λk l _ e=>(D k (.inl l)).2.2 e) _ _ df.out));rw[c1.out];exact(ch.out.far E (λk l _ e=>(D k (.inr l)).2.2 e)).mono (λ_ d _=>.inr d)
     have c9:=cf.out.trans (E.to_below (Nat.le_trans ao (by rw[bs];omega)) (λk l e=>by have:=(b2.out k e).1;omega));have A:=zD (show ∃(al:Nat) (f:Option Addr) (o p:Nat) (n:List Value) (c:NS),Value.slice (W ⟨gg,0,O⟩) (i+1) cap=Y f o p/\Value.int I ((i:Int)+1)=V I (al:Int)/\al<=t/\w5.ownsRow a 220 3 (Y f o p) al n/\x9 w5 c (m.take al) n/\(∀k,c k->a<=k/\k < w5.heap.size/\(Value.slice f o p).ownBlock≠W k)/\Below a w w5 from ⟨i+1,_,_,_,_,_,rfl,by go_num,dg,cl,c0,λk l=>⟨(D k l).1,by have:=(D k l).2.1;omega,λe=>by
      simp only[Value.ownBlock,Option.map_some,Option.some.injEq]at e;rcases co with d|d
      ·exact(D k l).2.2 (d.trans (congrArg W e))
      ·have:=(D k l).2.1;omega⟩,c9⟩)
     clear E c0 c9 cl di b5 df ch cf
     go_roundw
     case rel=>exact A.out
     case measure=>simp[Lib.intOf];omega
    ·obtain rfl:i=t:=by omega
     have a3:¬(i:Int) < (i:Int):=by omega
     rw[zR (by rw[S.out.1];exact η _)]at H;have bw:=ab;rw[<-S.out.1]at bw;have A:=zD (θ bw (θ H (θ T s)));clear bw ab H T s an
     go_wp2_with fail
     go_ret2
     exact⟨⟨_,rfl,n,A.out.1,c,A.out.2.1,A.out.2.2.1⟩,A.out.2.2.2⟩
section
attribute [local go_sem] ak
theorem uu(f:List Ln.Line)(l:List Tp.En)(t:Tp.Tree)(v:Value)(av:NS)(w:World)(bD:Row w av f.length v (ye f))(cv:∀k,av k->k < w.heap.size)(bb:f.length<=10000)(df:∀x∈f,0<=x.ind/\x.ind<=8000)(cm:∀x∈f,x.s.length<=100000/\Ln.right x.s=true/\Ln.plainB x.s=true)(bn:Tp.ents f=W l)(ab:∀x∈l,(∀t∈x.l,zf t)/\x.l.length<=100000)(M:Tp.bread l=W t)(C:Glob w):
 Calls π 54 #[v] w λe w'=>(∃N:List Value,e=ρ (.tuple #[γ N.toArray,V I 0,V I 0])/\xS w' (New w) t N)/\Below w.heap.size w w':=by
 obtain⟨e2,e9,rfl,_⟩:=bD.form;obtain⟨q,bs⟩:∃q,w.heap.size=q:=⟨_,rfl⟩;have fn:10<=q:=by rw[<-bs];exact C.1
 have p:Far xO w (w.alloc (J #[V I 0,U ⟨#[]⟩,V I 0,V I 0,U ⟨#[]⟩,Y O 0 0,Y O 0 0] 78)):=(ξ _ w).alloc _;have b0:(w.alloc (J #[V I 0,U ⟨#[]⟩,V I 0,V I 0,U ⟨#[]⟩,Y O 0 0,Y O 0 0] 78)).heap[q]? =W (J #[V I 0,U ⟨#[]⟩,V I 0,V I 0,U ⟨#[]⟩,Y O 0 0,Y O 0 0] 78 (0,0)):=by rw[<-bs];exact af w _
 have b5:(w.alloc (J #[V I 0,U ⟨#[]⟩,V I 0,V I 0,U ⟨#[]⟩,Y O 0 0,Y O 0 0] 78)).heap.size=q+1:=by simp[bs]
 have F:=jq f l bn;have bk:=tF f l _ av _ (bD.far p (λ_ _ _ e=>e)) (λk g=>zK (cv k g) p.size) bb df cm bn (λx X=>(ab x X).2) (C.far p (λ_ _ e=>e));generalize hN:f.length=ei at bk F bb ⊢;obtain⟨ac,A,rfl⟩:∃e m,l=e::m:=by
  cases l with
  |nil=>simp[Tp.bread]at M
  |cons e m=>exact⟨_,_,rfl⟩
 obtain⟨c,a4⟩:∃c,A.length=c:=⟨_,rfl⟩;have eg:c+1=ei:=by rw[<-a4];simpa using F
 subst eg;have ck:=λs m a oe r (d0:yp s m a oe r (ac::A)) (ds:Glob s) (ex:10<=m) (d6:10<=a)=>lI m a oe r ac A t s d0 ab ds ex d6 (by rw[F];exact Nat.le_trans bb (by omega)) M;obtain⟨b6,b8,ch,cb,ef,L⟩:=zx6 bk ck p b0 C a4;clear bk ck p b0 C bD cv df cm bn ab M hN F a4
 go_enter func54,ntmps54
 go_wp2_with fail
 refine b6.out.mono ?_;rintro e d ⟨⟨m,ek,r,rfl,n,da,y⟩,D⟩;simp only[zO,L.out]at n;obtain⟨a,j,rfl,eq,dA⟩:=aA n;rw[b5]at eq y;obtain⟨b,E⟩:∃q,d.heap.size=q:=⟨_,rfl⟩;have z:Far xO d ((d.alloc (J #[V I 0,U ⟨#[]⟩,V I 0,V I 0,U ⟨#[]⟩,Y O 0 0,Y O 0 0] 78)).alloc (J #[Y (W ⟨a,0,O⟩) (c+1) j] 153)):=((ξ _ d).alloc _).alloc _;have ba:((d.alloc (J #[V I 0,U ⟨#[]⟩,V I 0,V I 0,U ⟨#[]⟩,Y O 0 0,Y O 0 0] 78)).alloc (J #[Y (W ⟨a,0,O⟩) (c+1) j] 153)).heap[b]? =W (J #[V I 0,U ⟨#[]⟩,V I 0,V I 0,U ⟨#[]⟩,Y O 0 0,Y O 0 0] 78 (0,0)):=by rw[<-E];exact aa _ (af d _)
 have di:((d.alloc (J #[V I 0,U ⟨#[]⟩,V I 0,V I 0,U ⟨#[]⟩,Y O 0 0,Y O 0 0] 78)).alloc (J #[Y (W ⟨a,0,O⟩) (c+1) j] 153)).heap[b+1]? =W (J #[Y (W ⟨a,0,O⟩) (c+1) j] 153 (0,0)):=ah _ _ _ (by simp[E]);have dl:((d.alloc (J #[V I 0,U ⟨#[]⟩,V I 0,V I 0,U ⟨#[]⟩,Y O 0 0,Y O 0 0] 78)).alloc (J #[Y (W ⟨a,0,O⟩) (c+1) j] 153)).heap.size=b+2:=by simp[E]
 have cl:=D.size;rw[b5]at cl;rw[E]at dA cl;have R:=(ch.out.below D).trans z;have cf:=z.heap ((Far.of_below D xO).heap cb.out id) id;have c1:=bK n;have b1:=ja n;have b2:yp ((d.alloc (J #[V I 0,U ⟨#[]⟩,V I 0,V I 0,U ⟨#[]⟩,Y O 0 0,Y O 0 0] 78)).alloc (J #[Y (W ⟨a,0,O⟩) (c+1) j] 153)) (b+1) a 0 r (ac::A):=by
  obtain⟨dp,dc⟩:=aU n;obtain⟨e8,T,o,es⟩:=c1;rw[dc]at o;injection o with o;injection o with o _ _;subst o;refine⟨⟨153,W ⟨a,0,O⟩,j,?_,?_,b1.2,λ_=>rfl⟩,⟨ek,dp,z.heap dc id,x9.far z (λ_ _ _ e=>e) _ _ da,λi x X=>by rw[Nat.zero_add];exact es i x X⟩,by omega,λh=>?_,λh=>(y _ h).2.2 rfl,λk g=>by rw[dl];have:=(y k g).2.1;omega⟩
  ·simp only[zO,L.out];exact di
  ·simp only[zO,L.out];exact b1.1
  ·have:=(y _ h).2.1;omega
 have cc:=b8.out _ (b+1) a 0 r b2 (ef.out.far R (λ_ _ e=>e)) (by omega) (by omega);obtain⟨db,b4,cS,dg⟩:=zx4 cc R cf ba;have e1:=lt_of_heap ba;clear D cc b2 R cf ba di c1 n da y b6 b8 ch cb z
 go_wp2_with fail
 generalize ((d.alloc (J #[V I 0,U ⟨#[]⟩,V I 0,V I 0,U ⟨#[]⟩,Y O 0 0,Y O 0 0] 78)).alloc (J #[Y (W ⟨a,0,O⟩) (c+1) j] 153))=e4 at *;refine db.out.mono ?_;rintro e d5 ⟨⟨N,rfl,a0⟩,u⟩;obtain⟨a9,al,bx,bR,bw,bq,ad,be,S,an,P,rfl⟩:=a0.form;have fv:=u.size;have ca:=u.heap cS.out (by omega);have H:=u.heap dg.out (by omega);have b3:=(b4.out.mono (D':=λk=>k=b+1\/k=a) (λ_ _ e=>e.elim)).trans u;obtain⟨c6,cT,b9⟩:=zx3 a0 ca b3;obtain⟨ao,a1⟩:=aG H (V I a9) (U al) (V I bx) (V I bR) (U bw) (Y bq ad be) (Y S an P);obtain⟨dr,dW,dj,dC,d3,en,dn,dv,ej,er,d1,dm,dJ,eM⟩:=bd H;obtain⟨d2,a6⟩:∃s,(((((((d5.setCell ⟨b,0,O⟩ (V I a9)).setCell ⟨b,1,O⟩ (U al)).setCell ⟨b,2,O⟩ (V I bx)).setCell ⟨b,3,O⟩ (V I bR)).setCell ⟨b,4,O⟩ (U bw)).setCell ⟨b,5,O⟩ (Y bq ad be)).setCell ⟨b,6,O⟩ (Y S an P))=s:=⟨_,rfl⟩;rw[a6]at ao a1;obtain⟨a2,c2,c9⟩:=zx3 ao a1 a6;clear a0 u ca H b3 db b4 cS dg ao a1 a6
 go_wp2_with fail
 rw[c9.out];clear c9;refine(nY d2).mono ?_;rintro e fc ⟨rfl,a5⟩;have G:=c2.out.below a5;have c0:=(a5.block _ (lt_of_heap a2.out)).trans a2.out;have bm:=G.heap cT.out (by omega);obtain⟨fE,fr,e5,c3,c4,c5,ft,_⟩:=bd c0;obtain⟨fG,fu,e6,fT,e7,fw,fs,fz,fl,fX,e3,fS,fL,fR⟩:=bd bm;have co:=xS.far G (λk (g:_<=k) _ e=>by omega) _ _ c6.out;obtain⟨e0,el⟩:=zx2 co bm;have d4:=zD ((b9.out.mono (D':=λk=>k=b\/k=b+1\/k=a) (λ_ _ e=>.inr e)).step G (λk _ e=>.inl e));clear a5 G c0 bm co c6 cT b9 c2 a2 dr dW dj dC d3 en dn dv ej er d1 dm dJ eM
 go_wp2_with fail
 obtain⟨ep,ct⟩:=aG el.out (V I a9) (U al) (V I bx) (V I bR) (U bw) (Y bq ad be) (Y S an P);exact bodyPost_ret (dH results54 _ _ _ _ ep rfl rfl) rfl ⟨⟨_,rfl,xS.mono (λk (g:_<=k) _=>by show w.heap.size<=k;omega) _ _ (xS.far ct (λk (g:_<=k) _ e=>by omega) _ _ e0.out)⟩,(d4.out.step ct (D':=(·=q)) (λk g (e:k=q)=>by omega)).to_below (η _) (λk g e=>by omega)⟩
end
section
attribute [local go_sem] ak
structure QOk(g:List Tp.Nd)(cf:List Nat)(outs:List Tp.Nd):Prop where
 good:yt g
 few:yR g
 ok:Tp.okGr 0 g=true
 say:Ag g
 cls:Tp.classes g=W cf
 len:cf.length=g.length
 cm:∀c∈cf,c < g.length
 kid:∀x∈g,∀k∈Tp.kidsOf x,k < g.length
 c0:cf[0]? =W 0
 tid:Tp.tidy 0 (Tp.whole g cf)=W outs
 goodW:yt (Tp.whole g cf)
 fewW:yR (Tp.whole g cf)
theorem wY(g j:List Tp.Nd)(q:List Nat)(v:Value)(r:NS)(w:World)(o:yc w r g v)(M:∀k,r k->k < w.heap.size)(z:Glob w)(d:QOk g q j):
 Calls π 37 #[γ #[V I 0,v]] w λe w'=>(∃L,e=ρ (.tuple #[γ #[V I 0,L],V I 0])/\yc w' (New w) j L)/\Below w.heap.size w w':=by
 obtain⟨b,i⟩:∃b,w.heap.size=b:=⟨_,rfl⟩;have f:Far xO w ((w.alloc (J #[V I 0,v] 54)).alloc (J #[V I 0,Y O 0 0] 54)):=((ξ _ w).alloc _).alloc _;have t:((w.alloc (J #[V I 0,v] 54)).alloc (J #[V I 0,Y O 0 0] 54)).heap[b]? =W (J #[V I 0,v] 54 (0,0)):=by rw[<-i];exact aa _ (af w _)
 have A:((w.alloc (J #[V I 0,v] 54)).alloc (J #[V I 0,Y O 0 0] 54)).heap[b+1]? =W (J #[V I 0,Y O 0 0] 54 (0,0)):=ah _ _ _ (by simp[i]);have y:((w.alloc (J #[V I 0,v] 54)).alloc (J #[V I 0,Y O 0 0] 54)).heap.size=b+2:=by simp[i]
 have l:=oD g q v r _ (o.far f (λ_ _ _ e=>e)) (λk a=>zK (M k a) f.size) (z.far f (λ_ _ e=>e)) d.good d.ok d.say d.cls d.few.2;obtain⟨ac,a9,_⟩:=bO t;obtain⟨X,bq,rfl,_⟩:=o.form;generalize hN:g.length=N at l a9 t f A y ac o ⊢;obtain⟨bk,b6,a1,R,bw,b8⟩:=zx6 l f A i y o;obtain⟨b3,a6,c,m⟩:=zx4 z M d hN;clear l f t A y o z M d hN
 go_enter func37,ntmps37
 go_upto_region 1 with (fail)
 clear i;generalize ((w.alloc (J #[V I 0,Y X N bq] 54)).alloc (J #[V I 0,Y O 0 0] 54))=ck at *
 go_wp2_with fail
 refine bk.out.mono ?_;rintro e ba ⟨⟨b1,b9,rfl,bb,bm,co,cl,cc⟩,S⟩;have s:=b6.out.below S;have a4:=iX g q (Y X N bq) r b1 b9 N ba (b8.out.far s (λ_ _ _ e=>e)) bb bm (by rw[<-m.out];exact c.out.len) m.out (λbD l=>by rw[<-m.out];exact c.out.cm bD l) c.out.few.1 (λx bs k a=>by rw[<-m.out];exact c.out.kid x bs k a) c.out.c0 (by rw[<-m.out];exact c.out.few.2) (λk a=>⟨zK (a6.out k a) s.size,λe=>by have:=a6.out k a;have:=bw.out;have:=R.out;omega⟩);have a3:=(S.block _ (lt_of_heap a1.out)).trans a1.out;obtain⟨a5,a0,bx⟩:=zx3 a3 a4 s;clear a4 s S bb bm a3 bk ac a9
 go_upto_region 4 with (fail)
 go_wp2_with fail
 refine a0.out.mono ?_;rintro e p ⟨⟨b5,rfl,T⟩,E⟩;have G:=bx.out.below E;have a2:=ng 0 (Tp.whole g q) j b5 (λk=>ba.heap.size<=k/\k < p.heap.size) p (T.mono (λk n b2=>⟨n,b2⟩)) (λk a=>a.2) (b3.out.far G (λ_ _ e=>e)) c.out.goodW c.out.fewW c.out.tid;have av:=(E.block _ (lt_of_heap a5.out)).trans a5.out;obtain⟨C,P,ca⟩:=zx3 av a2 G;have an:((0:Nat):Int)=0:=rfl;rw[an]at P;clear a2 G T E av a0 an
 go_wp2_with fail
 refine P.out.mono ?_;rintro e bR ⟨⟨L,rfl,F⟩,H⟩;obtain⟨al,ab,rfl,_⟩:=F.form;have D:=ca.out.below H;have n:=(H.block _ (lt_of_heap C.out)).trans C.out;obtain⟨cm,ch,u0,u1⟩:=bO n;obtain⟨bn,u⟩:=wZ n (V I 0) (Y al j.length ab);have cf:b+2<=p.heap.size:=by have be:=lt_of_heap C.out;omega
 have ao:=(F.far u (λk a _ e=>by have be:p.heap.size<=k:=a;omega)).mono (G':=New w) (λk a _=>by have be:p.heap.size<=k:=a;have:=R.out;show w.heap.size<=k;omega);have ad:Below w.heap.size w ((bR.setCell ⟨b+1,0,O⟩ (V I 0)).setCell ⟨b+1,1,O⟩ (Y al j.length ab)):=(D.to_below (η _) (λ_ _ e=>e)).trans (u.to_below D.size (λk a e=>by have:=R.out;omega));obtain⟨b0,b4,cb⟩:=zx3 ao ad bn;clear ao ad bn u n F H D P
 go_wp2_with fail
 exact bodyPost_ret (fA results37 _ (b+1) _ _ _ cb.out rfl) rfl ⟨⟨_,rfl,b0.out⟩,b4.out⟩
end
section
attribute [local go_sem] ak
def zm(f:List Tp.Nd)(d:Tp.B):Prop:=∀(a:World) (b:NS) (c:Value),yc a b f c->(∀k,b k->k < a.heap.size)->Glob a->Calls π 38 #[γ #[V I 0,c]] a λe w'=>e=ρ (.tuple #[xR d,V I 0])/\Below a.heap.size a w'
theorem sR(g i:List Tp.Nd)(G:List Nat)(p:Tp.B)(v:Value)(y:NS)(w:World)(r:yc w y g v)(E:∀k,y k->k < w.heap.size)(t:Glob w)(l:QOk g G i)(C:zm i p):
 Calls π 19 #[γ #[V I 0,v]] w λe w'=>e=ρ (.tuple #[xR p,V I 0])/\Below w.heap.size w w':=by
 have b:Far xO w (w.alloc (J #[V I 0,v] 54)):=(ξ _ w).alloc _;have m:=af w (J #[V I 0,v] 54);have z:=wY g i G v y _ (r.far b (λ_ _ _ e=>e)) (λk D=>zK (E k D) b.size) (t.far b (λ_ _ e=>e)) l;obtain⟨ad,al,rfl,_⟩:=r.form;obtain⟨q,u⟩:∃q,g.length=q:=⟨_,rfl⟩;obtain⟨a2,s⟩:∃T,xR p=U T:=⟨_,rfl⟩;rw[u]at z b m;rw[u];obtain⟨R,an,_⟩:=bO m;obtain⟨F,X,ao,ab⟩:=zx4 z b C t;clear z b m r t E l C u;rw[s]
 go_enter func19,ntmps19
 go_upto_region 1 with (fail)
 generalize (w.alloc (J #[V I 0,Y ad q al] 54))=av at *
 go_wp2_with fail
 refine F.out.mono ?_;rintro e c ⟨⟨a0,rfl,j⟩,M⟩;obtain⟨d,f,rfl,_⟩:=j.form;obtain⟨a,n⟩:∃a,i.length=a:=⟨_,rfl⟩;rw[n]at j;have L:=X.out.below M;have x:=L.alloc (J #[V I 0,Y d a f] 54);have H:=af c (J #[V I 0,Y d a f] 54);have o:=ao.out (c.alloc (J #[V I 0,Y d a f] 54)) (λk=>k < c.heap.size) (Y d a f) ((j.mono (G':=λk=>k < c.heap.size) (λk _ l=>l)).far ((ξ xO c).alloc _) (λ_ _ _ e=>e)) (λk D=>by simp;omega) (ab.out.far x (λ_ _ e=>e));obtain⟨a4,a1,_⟩:=bO H;rw[s]at o;obtain⟨A,ac⟩:=zx2 o x;clear o L x H j M F R an;rw[n];clear n s
 go_upto_region 4 with (fail)
 generalize (c.alloc (J #[V I 0,Y d a f] 54))=a3 at *
 go_wp2_with fail
 refine A.out.mono ?_;rintro e S ⟨rfl,N⟩;have P:Below w.heap.size w S:=(ac.out.below N).to_below (η _) (λ_ _ e=>e);clear N A
 go_wp2_with fail
 go_ret2
 exact⟨rfl,P⟩
end
section
attribute [local go_sem] ak
theorem xe(v:Value)(a:World):(Instr.typeAssert (.iface 101 v) 20 101 false).run π a=.ok v a:=by kernel_rfl
theorem xJ(v:Value)(a:World):(Instr.typeAssert (.iface 78 v) 20 78 false).run π a=.ok v a:=by kernel_rfl
theorem mz(s:ByteArray)(p:s.size<=1000000)(l:(Ln.split s.data.toList).2.2=0)(m:Value)(w:World)(j:Glob w):
 Calls π 33 #[γ #[U s],m] w λe w'=>(∃v,e=ρ (.tuple #[.iface 101 v,.nilIface])/\AC w.heap.size v (Ln.split s.data.toList).1 w')/\Below w.heap.size w w':=by
 have d:Below w.heap.size w (w.alloc (J #[U s] 73)):=(ζ _ w).alloc (η _) _;have b:=p7 s p _ (j.step d);unfold Ao at b;rw[l]at b;have r:(w.alloc (J #[U s] 73)).cell? ⟨w.heap.size,0,O⟩=W (U s):=ae (af w _) 0;obtain⟨g,c⟩:=zx2 b d;clear b d j
 go_enter func33,ntmps33
 go_wp2_with fail
 refine g.out.mono ?_;rintro e x ⟨⟨v,rfl,f⟩,i⟩;obtain⟨z,A,C,rfl⟩:∃a n k,v=Y a n k:=by obtain⟨a,_,_,k,t,_⟩:=az f;exact⟨_,_,_,t⟩
 have u:=zD (aW (base':=w.heap.size) f (by simp));have q:=zD (c.out.trans (i.mono c.out.size));clear f i g c r;generalize (Ln.split s.data.toList).2.1=o at *
 go_wp2_with fail
 refine(fd o x).mono ?_;rintro e y ⟨rfl,rfl⟩
 go_wp2_with fail
 go_ret2
 exact⟨⟨_,rfl,u.out⟩,q.out⟩
theorem nX(L m:Value)(c:List Ln.Line)(y:List Tp.En)(t:Tp.Tree)(v:Value)(D:NS)(w:World)(an:Row w D c.length v (ye c))(R:∀k,D k->k < w.heap.size)(al:c.length<=10000)(ad:∀x∈c,0<=x.ind/\x.ind<=8000)(av:∀x∈c,x.s.length<=100000/\Ln.right x.s=true/\Ln.plainB x.s=true)(a5:Tp.ents c=W y)(a3:∀x∈y,(∀t∈x.l,zf t)/\x.l.length<=100000)(N:Tp.bread y=W t)(a2:Glob w):
 Calls π 34 #[γ #[L],.iface 101 v] w λe w'=>(∃C:List Value,e=ρ (.tuple #[.iface 78 (γ C.toArray),.nilIface])/\xS w' (New w) t C)/\Below w.heap.size w w':=by
 have l:Below w.heap.size w (w.alloc (J #[L] 73)):=(ζ _ w).alloc (η _) _;have a9:=uu c y t v D _ (an.below l) (λk P=>zK (R k P) l.size) al ad av a5 a3 N (a2.step l);have be:=xe v;obtain⟨ac,u⟩:=zx2 a9 l;clear a9 l a2 an R al ad av a5 a3 N
 go_enter func34,ntmps34
 go_wp2_with fail
 refine ac.out.mono ?_;rintro e a ⟨⟨C,rfl,E⟩,a0⟩;obtain⟨j,s,n,p,i,f,r,q,o,d,g,rfl⟩:=E.form;have G:=u.out.trans (a0.mono u.out.size);have A:Far xO a ((a.alloc (J #[V I j,U s,V I n,V I p,U i,Y f r q,Y o d g] 78)).drew):=((ξ _ a).alloc _).drew;have a6:=cq (af a (J #[V I j,U s,V I n,V I p,U i,Y f r q,Y o d g] 78));obtain⟨X,ao,S,a4,M,ba,H,_⟩:=bd a6;have z:(λb=>b.cell? ⟨a.heap.size,0,O⟩=W (V I j)/\b.cell? ⟨a.heap.size,1,O⟩=W (U s)/\b.cell? ⟨a.heap.size,2,O⟩=W (V I n)/\b.cell? ⟨a.heap.size,3,O⟩=W (V I p)/\b.cell? ⟨a.heap.size,4,O⟩=W (U i)/\b.cell? ⟨a.heap.size,5,O⟩=W (Y f r q)/\b.cell? ⟨a.heap.size,6,O⟩=W (Y o d g)) ((a.alloc (J #[V I j,U s,V I n,V I p,U i,Y f r q,Y o d g] 78)).drew):=⟨X,ao,S,a4,M,ba,H⟩;clear X ao S a4 M ba H;have a1:=xS.mono (G':=New w) (λk (P:_<=k) _=>by have:=u.out.size;show w.heap.size<=k;omega) _ _ (xS.far A (λ_ _ _ e=>e) _ _ E);have bk:=zD a1;have bb:=zD (G.trans (A.to_below (B:=w.heap.size) (by exact G.size) (λ_ _ e=>e.elim)));clear a0 G A a1 E ac u be
 go_upto_region 2 with (fail)
 refine wp_region_noPanic ?_;refine ar (λb=>b.cell? ⟨a.heap.size,0,O⟩=W (V I j)/\b.cell? ⟨a.heap.size,1,O⟩=W (U s)/\b.cell? ⟨a.heap.size,2,O⟩=W (V I n)/\b.cell? ⟨a.heap.size,3,O⟩=W (V I p)/\b.cell? ⟨a.heap.size,4,O⟩=W (U i)/\b.cell? ⟨a.heap.size,5,O⟩=W (Y f r q)/\b.cell? ⟨a.heap.size,6,O⟩=W (Y o d g)) [] (by kernel_rfl) ?_;refine aJ (by kernel_rfl) (λ_ _ _ _ F=>F) z 3 [0,1,2,3] _ _ (by kernel_rfl) ?_;iterate 4 (refine Ei ?_;(try go_frame))
 refine xT.done ?_;try dsimp only
 refine aq [4] ?_;refine aj rfl (λK T=>?_) xQ.nil
 go_simp
 refine(fd 0 _).mono ?_;rintro e w5 ⟨rfl,ab⟩;obtain rfl:=ab.symm;refine T.out _ _ (λ_=>z) ?_;clear T K ab
 (try go_frame)
 refine aJ (by kernel_rfl) (λ_ _ _ _ F=>F) z 0 [5,6] _ _ (by kernel_rfl) ?_;iterate 2 (refine Ei ?_;(try go_frame))
 refine xT.done ?_;try dsimp only
 refine aP (by kernel_rfl) (NoPanic.normal ?_) _;clear z a6
 go_wp2_with fail
 go_ret2
 exact⟨⟨_,rfl,bk.out⟩,bb.out⟩
theorem mJ(y m:Value)(t:Tp.Tree)(f:List Value)(q:NS)(g:List Tp.Nd)(w:World)(A:xS w q t f)(C:zb t)(P:Glob w)(v:∀k,q k->k < w.heap.size)(M:Tp.graph t=W g)(H:(yv t).Nodup)(x:Tp.depth t<=900):
 Calls π 35 #[γ #[y],.iface 78 (γ f.toArray)] w λe w'=>(∃o,e=ρ (.tuple #[.iface 54 (γ #[V I 0,o]),.nilIface])/\yc w' (New w) g o)/\Below w.heap.size w w':=by
 have i:Below w.heap.size w (w.alloc (J #[y] 73)):=(ζ _ w).alloc (η _) _;have R:=sQ t f q g _ (xS.far (Far.of_below i xO) (λ_ _ _ e=>e) _ _ A) C (P.step i) (λk z=>zK (v k z) i.size) M H x;have X:=xJ (γ f.toArray);obtain⟨G,l⟩:=zx2 R i;clear R i P A C v M H x;generalize Value.agg f.toArray=ab at *
 go_enter func35,ntmps35
 go_wp2_with fail
 refine G.out.mono ?_;rintro e a ⟨⟨o,rfl,r⟩,N⟩;obtain⟨c,j,rfl,_⟩:=r.form;generalize g.length=b at *;have u:=l.out.trans (N.mono l.out.size);have p:Far xO a ((a.alloc (J #[V I 0,Y c b j] 54)).drew):=((ξ _ a).alloc _).drew;obtain⟨E,L,_⟩:=bO (cq (af a (J #[V I 0,Y c b j] 54)));have n:(λd=>d.cell? ⟨a.heap.size,0,O⟩=W (V I 0)/\d.cell? ⟨a.heap.size,1,O⟩=W (Y c b j)) ((a.alloc (J #[V I 0,Y c b j] 54)).drew):=⟨E,L⟩;clear E L;have S:=zD ((r.far p (λ_ _ _ e=>e)).mono (G':=New w) (λk (z:_<=k) _=>by have:=l.out.size;show w.heap.size<=k;omega));have T:=zD (u.trans (p.to_below (B:=w.heap.size) (by exact u.size) (λ_ _ e=>e.elim)));clear N u p r G l X
 go_upto_region 2 with (fail)
 refine wp_region_noPanic ?_;refine ar (λd=>d.cell? ⟨a.heap.size,0,O⟩=W (V I 0)/\d.cell? ⟨a.heap.size,1,O⟩=W (Y c b j)) [] (by kernel_rfl) ?_;refine aJ (by kernel_rfl) (λ_ _ _ _ s=>s) n 3 [0,1,2] _ _ (by kernel_rfl) ?_;iterate 3 (refine Ei ?_;(try go_frame))
 refine xT.done ?_;try dsimp only
 refine aq [3] ?_;refine aj rfl (λK D=>?_) xQ.nil
 go_simp
 refine(fd 0 _).mono ?_;rintro e w5 ⟨rfl,F⟩;obtain rfl:=F.symm;refine D.out _ _ (λ_=>n) ?_;clear D K F
 (try go_frame)
 refine aJ (by kernel_rfl) (λ_ _ _ _ s=>s) n 0 [4,5] _ _ (by kernel_rfl) ?_;iterate 2 (refine Ei ?_;(try go_frame))
 refine xT.done ?_;try dsimp only
 refine aP (by kernel_rfl) (NoPanic.normal ?_) _;clear n
 go_wp2_with fail
 go_ret2
 exact⟨⟨_,rfl,S.out⟩,T.out⟩
end
section
attribute [local go_sem] ak
theorem n9(p:Nat->Value)(bq:World->Prop)(c3:∀t,t < 2->p t=.nilIface)(ck:p 2=.nilIface\/∃b1,p 2=.iface 109 b1)(d:Value)(c:Nat->Nat)(P:Nat->Value->NS->World->Prop)(i g:Nat)(w:World)(L:w.heap[i]? =W (.cells #[Y (W ⟨g,0,O⟩) 3 3] 97 (0,0)))(T:TypeId)(R:w.heap[g]? =W (.cells #[φ (.func (c 0)) #[d] #[],φ (.func (c 1)) #[d] #[],φ (.func (c 2)) #[d] #[]] T (0,0)))
(X:∀t,t < 3->∀args b,(callFunc (c t) args).run π b=.ok (.enter (c t) args) b)(bD:∀b,P 0 .nilIface xO b)
(bs:∀t x f b y D,P t x f b->Far D b y->(∀k,f k->¬D k)->P t x f y)
(bw:∀t,t < 3->∀x f b,P t x f b->bq b->(∀k,f k->k < b.heap.size)->Calls π (c t) #[d,x] b λe w'=>(∃A,e=ρ (.tuple #[A,p t])/\P (t+1) A (λk=>b.heap.size<=k/\k < w'.heap.size) w')/\Below b.heap.size b w'):
 yQ π 69 #[Z (W ⟨i,0,O⟩)] 3 3 (λt c5 f b=>∃x,c5=#[x,p t]/\P (t+1) x f b/\∀k,f k->w.heap.size<=k) xO (λk=>k=i\/k=g) True (λ_ b=>bq b) (λ_=>True) w:=by
 intro l J dj cS b M cl hF0 al dc ca a3 b6;have b5:=(M.block _ (lt_of_heap R)).trans R;have ac:=(M.block _ (lt_of_heap L)).trans L;have bx:=M.size;obtain⟨B,v⟩:∃B,w.heap.size=B:=⟨_,rfl⟩;rw[v]at al bx a3;have dn:i < B/\g < B:=⟨v ▸ lt_of_heap L,v ▸ lt_of_heap R⟩;have dm:=zF ac 0 rfl;have b9:∀(t:Nat) (y:World),t < 3->y.heap[g]? =W (.cells #[φ (.func (c 0)) #[d] #[],φ (.func (c 1)) #[d] #[],φ (.func (c 2)) #[d] #[]] T (0,0))->y.cell? ⟨g,t,O⟩=W (φ (.func (c t)) #[d] #[]):=λt y di a=>by
  match t with
  |0=>exact ae a 0
  |1=>exact ae a 1
  |2=>exact ae a 2
  |n+3=>omega
 obtain⟨cv,cT,c2,dg,c4,c0⟩:=zx6 b9 X bs bw a3 ca;have da:=zD al;have co:=zD (bD b);have bk:=zD (θ ac b5);obtain⟨b2,ct⟩:=zx2 hF0 b6;clear b9 X bs bw a3 ca al dc bD ac b5 hF0 b6 M cl L R v
 go_enter func69,ntmps69
 go_wp2_with fail
 go_step3
 go_wp2_with fail
 go_step3
 go_wp2_with fail
 go_loopw [3,4,9] (λc6 c1 a0 wr=>∃(t:Nat) (j f:NS),c1=.nilIface/\a0=V I (t:Int)/\t<=3/\P t c6 f wr/\J t j wr/\(∀k,f k->k < wr.heap.size)/\wr.heap[i]? =W (.cells #[Y (W ⟨g,0,O⟩) 3 3] 97 (0,0))/\wr.heap[g]? =W (.cells #[φ (.func (c 0)) #[d] #[],φ (.func (c 1)) #[d] #[],φ (.func (c 2)) #[d] #[]] T (0,0))/\B<=wr.heap.size/\(∀k,j k->k≠i/\k≠g)) (λ_ _ a0 _=>3 - (Lib.intOf a0).toNat)
 case atStart=>exact⟨0,cS,xO,rfl,rfl,z_ _,co.out,ct.out,λ_ a=>a.elim,bk.out.1,bk.out.2,bx,λk a=>⟨λe=>(b2.out k a).2 (.inl e),λe=>(b2.out k a).2 (.inr e)⟩⟩
 case round=>
  obtain⟨t,j,f,rfl,rfl,ds,ba,E,an,ao,N,v,a2⟩:=hrel;by_cases F:t < 3
  ·have c9:=cv.out t wr F N
   have X:=cT.out t F;obtain⟨bn,b4⟩:=c0.out t j wr E;have bm:=dg.out t F _ f wr ba bn an;have dp:(t:Int) < 3:=by omega
   have dC:(0:Int)<=(t:Int):=by omega
   obtain⟨cb,cc⟩:=zx2 bm E;have bR:=zD (b4 trivial);obtain⟨r,ad,a1⟩:=zx3 ao N a2;clear bm E b4 ao N a2 ba bn an
   go_wp2_with fail
   refine cb.out.mono ?_;rintro e ab ⟨⟨A,rfl,a9⟩,G⟩;have ch:=da.out t j _ _ cc.out ((Far.of_below G (y8 xO j B)));have bb:=(G.block _ (lt_of_heap r.out)).trans r.out;have cf:=(G.block _ (lt_of_heap ad.out)).trans ad.out;have dl:=G.size;have av:=zD a9;have S:=zD (θ bb cf);obtain⟨dA,dv,assign,body,u,be⟩:=c4.out t F j (λk=>wr.heap.size<=k/\k < ab.heap.size) #[A,p t] ab ch ⟨A,rfl,a9,λk a=>Nat.le_trans v a.1⟩ (λk a=>⟨λa4=>by have:=bR.out k a4;omega,a.2⟩);have z:=zD be;clear be a9 G ch bb cf cb cc r ad X c9;by_cases a5:p t=.nilIface
   case neg=>
    obtain rfl:t=2:=by
     by_cases a:t=2
     ·exact a
     ·exact absurd (c3 t (by omega)) a5
    obtain⟨b1,a6⟩:=ck.resolve_left a5;rw[a6]at u ⊢
    go_upto_region 6 with (fail)
    refine(wpIn_wide (n:=4)).1 ?_
    gi_wp2
    refine(z.out).mono ?_;rintro e q ⟨o,⟨m,s⟩,(⟨rfl,H⟩|⟨rfl,C⟩)⟩
    ·have df:=zD H
     clear H m s z u av S
     gi_wp2
     go_wp2_with fail
     try rw[Exit.noGoto_normal]
     go_end0
     exact⟨⟨_,rfl⟩,.inl ⟨o,df.out,trivial⟩⟩
    ·have r:=zD C
     clear C m s z u
     gi_wp2
     go_wp2_with fail
     try rw[Exit.noGoto_normal]
     go_end0
     exact⟨⟨_,rfl⟩,.inr ⟨o,r.out⟩⟩
   case pos=>
    have a6:=a5;rw[a6]at u ⊢
    go_upto_region 6 with (fail)
    refine(wpIn_wide (n:=4)).1 ?_
    gi_wp2
    refine(z.out).mono ?_;rintro e q ⟨o,⟨m,s⟩,(⟨rfl,H⟩|⟨rfl,C⟩)⟩
    ·have dr:=m.size
     have b0:∀k,o k->k≠i/\k≠g:=by
      intro k a;rcases s k a with a|a|a
      ·exact a1.out k a
      ·exact⟨by omega,by omega⟩
      ·exact⟨by omega,by omega⟩
     have b8:=c2.out _ _ _ _ _ j av.out m (λk a a4=>by have:=bR.out k a4;omega);have db:=zD (show P (t+1) A (λk=>wr.heap.size<=k/\k < ab.heap.size) q/\J (t+1) o q/\(∀k,(wr.heap.size<=k/\k < ab.heap.size)->k < q.heap.size)/\q.heap[i]? =W (.cells #[Y (W ⟨g,0,O⟩) 3 3] 97 (0,0))/\q.heap[g]? =W (.cells #[φ (.func (c 0)) #[d] #[],φ (.func (c 1)) #[d] #[],φ (.func (c 2)) #[d] #[]] T (0,0))/\B<=q.heap.size/\(∀k,o k->k≠i/\k≠g)from ⟨b8,H,λk a=>by omega,m.heap S.out.1 (λe=>(a1.out _ e).1 rfl),m.heap S.out.2 (λe=>(a1.out _ e).2 rfl),by omega,b0⟩);clear H m s z u b0 b8 av S
     gi_wp2
     go_wp2_with fail
     go_roundw
     case rel=>exact⟨t+1,o,_,rfl,by go_num,F,db.out⟩
     case measure=>simp[Lib.intOf];omega
    ·have r:=zD C
     clear C m s z u
     gi_wp2
     go_wp2_with fail
     try rw[Exit.noGoto_normal]
     go_end0
     exact⟨⟨_,rfl⟩,.inr ⟨o,r.out⟩⟩
  ·obtain rfl:t=3:=by omega
   have cm:=zD E;clear ba E a2 ao N an
   go_wp2_with fail
   try rw[Exit.noGoto_normal]
   go_end0
   exact⟨⟨_,rfl⟩,.inl ⟨j,cm.out,trivial⟩⟩
end
end Go.Proofs.YtbikgdhbiebhcaaGreatDoor
