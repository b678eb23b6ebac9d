/- Part 13. -/
import Derived.Test.YtbikgdhbiebhcaaGreatDoorW12
set_option linter.unusedVariables false
set_option linter.unusedSimpArgs false
set_option maxRecDepth 100000
set_option maxHeartbeats 2000000
open Go.Value renaming int -> V, string -> U, slice -> Y, pointer -> Z, func -> φ, agg -> γ, bool -> β
open Go.IntKind renaming i64 -> I
open Option renaming some -> W, none -> O
open Go.Obj renaming cells -> J
open Go.Ending renaming returned -> ρ
open Go.Proofs.Tryz renaming prog -> π
open Nat renaming le_refl -> η
open And renaming intro -> θ
open Go.RowKit.Below renaming refl -> ζ
namespace Go.Proofs.YtbikgdhbiebhcaaGreatDoor
open Go.RowKit Tryz
section
attribute [local go_sem] ak
attribute [local go_sem] Oper.semAt_some
theorem ip{l:List Tp.Tk}(a:Tp.isKey l=true):Tp.isDash l=(!true):=by
 match l,a with
 | [],a=>simp[Tp.isKey]at a
 | [t],a=>simp[Tp.isKey]at a
 |t::u::r,a=>
  simp only[Tp.isKey,zQ,Bool.or_eq_true,beq_iff_eq]at a;simp only[Tp.isDash,Bool.not_true,beq_eq_false_iff_ne];rcases a.1 with a|a<;>rw[a]<;>decide
theorem nR(j:Int):∀(i:List Tp.En) (b:List Tp.Sc) (c:List Tp.Tree),Tp.bdict j i=W (b,c)->b.length=i.length/\c.length=i.length/\∀(t:Nat) (e:Tp.En),i[t]? =W e->e.col=j/\Tp.isKey e.l=true/\Tp.isName1 (e.l.drop 2)=false/\(e.l.drop 2).isEmpty=false/\∃d x v,e.l[0]? =W d/\Tp.fkey d=W x/\b[t]? =W x/\c[t]? =W v/\Tp.bval (e.l.drop 2) 2=W v
 | [],b,c,h=>by
  unfold Tp.bdict at h;cases h
  exact⟨rfl,rfl,λt e f=>by simp at f⟩
 |e::r,b,c,h=>by
  unfold Tp.bdict at h;split at h
  ·rename_i hc
   split at h
   ·rename_i d r0 hl
    cases a:Tp.fkey d with
    |none=>rw[a]at h;cases h
    |some x=>
     cases g:Tp.bval (e.l.drop 2) 2 with
     |none=>rw[a,g]at h;cases h
     |some v=>
      cases k:Tp.bdict j r with
      |none=>rw[a,g,k]at h;cases h
      |some kv=>
       obtain⟨xs,n⟩:=kv;rw[a,g,k]at h;cases h
       obtain⟨o,l,p⟩:=nR j r xs n k;refine⟨by simp[o],by simp[l],λt m f=>?_⟩;cases t with
       |zero=>simp at f;subst f;exact⟨hc.1,hc.2.1,hc.2.2.1,hc.2.2.2,d,x,v,by rw[hl];rfl,a,rfl,rfl,g⟩
       |succ t=>exact p t m (by simpa using f)
   ·cases h
  ·cases h
structure DcI(w:World)(b r ge oe deep:Nat)(TG:NS)(es:List Tp.En)(ks:List Tp.Sc)(vs:List Tp.Tree)(t:Nat)(F:NS)(W:World):Prop where
 lt:∀k,F k->k < W.heap.size
 fr:∀k,F k->k=r\/k=ge\/b<=k
 fR:F r
 fG:F ge
 f4:F (b+4)
 nb:¬F b/\¬F (b+1)/\¬F (b+2)/\¬F (b+3)
 rd:yp W r ge (oe+3 * t) TG (es.drop t)
 row:∃kv dv cs KF,W.heap[b+4]? =some (J #[V I 2,U ⟨#[]⟩,V I 0,V I 0,U ⟨#[]⟩,kv,dv] 78 (0,0))/\W.ownsRow (b+8) 30 3 kv t (xV (ks.take t))/\W.ownsRow (b+8) 78 7 dv t cs/\(∀k,dv.ownBlock=some k->F k/\kv.ownBlock≠some k)/\(∀k,kv.ownBlock=some k->F k)/\xU W KF (vs.take t) cs/\∀k,KF k->F k/\b+8<=k/\dv.ownBlock≠some k/\kv.ownBlock≠some k
 far:Far (λk=>k=r\/k=ge) w W
 bx:W.heap[b]? =some (J #[Z (some ⟨r,0,O⟩)] 149 (0,0))/\W.heap[b+1]? =some (J #[V I (deep:Int)] 3 (0,0))/\W.heap[b+2]? =some (J #[V I 0,U ⟨#[]⟩,V I 0,V I 0,U ⟨#[]⟩,Y O 0 0,Y O 0 0] 78 (0,0))/\W.heap[b+3]? =some (J #[.nilIface] 41 (0,0))
theorem DcI.step{w:World}{d l z r x:Nat}{g:NS}{u:List Tp.En}{m:List Tp.Sc}{o:List Tp.Tree}{t:Nat}{j D:NS}{n C:World}(h:DcI w d l z r x g u m o t j n)(ad:w.heap.size=d)(T:∀k,g k->k < d)(b:Far D n C)(a:∀k,D k->¬j k/\d+8<=k):DcI w d l z r x g u m o t j C:=by
 obtain⟨P,E,v,p,q,ac,X,⟨kv,F,N,H,R,G,S,y,A,L,s⟩,M,f⟩:=h;exact⟨λk c=>zK (P k c) b.size,E,v,p,q,ac,X.far b (λe=>(a _ e).1 v) (λe=>(a _ e).1 p) (λk c _ e=>by have:=T k c;have:=(a _ e).2;omega),⟨kv,F,N,H,b.heap R (λe=>(a _ e).1 q),am G b (λk e i=>(a _ i).1 (A k e)),am S b (λk e i=>(a _ i).1 (y k e).1),y,A,xU.far b (λk c _ e=>(a _ e).1 (s k c).1) _ _ L,s⟩,M.step b (λk c e=>by have:=(a _ e).2;omega),⟨b.heap f.1 (λe=>by have:=(a _ e).2;omega),b.heap f.2.1 (λe=>by have:=(a _ e).2;omega),b.heap f.2.2.1 (λe=>by have:=(a _ e).2;omega),b.heap f.2.2.2 (λe=>by have:=(a _ e).2;omega)⟩⟩
theorem uj(s av cf ba:Nat)(hE:ba=1)(ck:NS)(bb:List Tp.En)(b4:List Tp.Sc)(b8:List Tp.Tree)(cb:Int)(w:World)(b:yp w s av cf ck bb)(hK:∀e∈bb,(∀t∈e.l,zf t)/\e.l.length<=100000)(k0:Glob w)(ps:10<=s)(pa:10<=av)(k5:Tp.bdict cb bb=W (b4,b8))(n3:bb.length<=100000):
 Calls π 155 #[Z (W ⟨s,0,O⟩),V I cb,V I (ba:Int)] w λx w'=>(∃hr:List Value,x=ρ (.tuple #[γ hr.toArray,.nilIface])/\xS w' (New w) ⟨2,[],Tp.Sc.null,b4,b8⟩ hr)/\yp w' s av (cf+3 * bb.length) ck []/\Far (λk=>k=s\/k=av) w w':=by
 obtain⟨pb,g7,o0,nf,n4⟩:=info_parts nL;obtain⟨c,ac⟩:∃c,w.heap.size=c:=⟨_,rfl⟩;obtain⟨d5,d6,hw⟩:=nR cb bb b4 b8 k5;obtain⟨X,g2⟩:∃X,bb.length=X:=⟨_,rfl⟩;rw[g2]at d6 d5 n3 ⊢;have np:=b.lt;have g8:=b.tgl;rw[ac]at np g8;obtain⟨bk,be⟩:∃x,((((((((w.alloc (J #[Z (W ⟨s,0,O⟩)] 149)).alloc (J #[V I (ba:Int)] 3)).alloc (J #[V I 0,U ⟨#[]⟩,V I 0,V I 0,U ⟨#[]⟩,Y O 0 0,Y O 0 0] 78)).alloc (J #[.nilIface] 41)).alloc (J #[V I 2,U ⟨#[]⟩,V I 0,V I 0,U ⟨#[]⟩,Y O 0 0,Y O 0 0] 78)).alloc (J #[Z (W ⟨s,0,O⟩)] 149)).alloc (J #[V I cb] 3)).alloc (J #[.iface 311 (γ #[])] 308))=x:=⟨_,rfl⟩;have fG:Far xO w bk:=by rw[<-be];exact(((((((((ξ _ w).alloc _).alloc _).alloc _).alloc _).alloc _).alloc _).alloc _)).alloc _
 have hs:bk.heap.size=c+8:=by rw[<-be];simp[ac]
 have hz:bk.heap[c]? =W (J #[Z (W ⟨s,0,O⟩)] 149 (0,0)):=by rw[<-be,<-ac];exact aa _ (aa _ (aa _ (aa _ (aa _ (aa _ (aa _ (af w _)))))))
 have d3:bk.heap[c+1]? =W (J #[V I (ba:Int)] 3 (0,0)):=by rw[<-be];exact aa _ (aa _ (aa _ (aa _ (aa _ (aa _ (ah _ _ _ (by simp[ac])))))))
 have e0:bk.heap[c+2]? =W (J #[V I 0,U ⟨#[]⟩,V I 0,V I 0,U ⟨#[]⟩,Y O 0 0,Y O 0 0] 78 (0,0)):=by rw[<-be];exact aa _ (aa _ (aa _ (aa _ (aa _ (ah _ _ _ (by simp[ac]))))))
 have ks:bk.heap[c+3]? =W (J #[.nilIface] 41 (0,0)):=by rw[<-be];exact aa _ (aa _ (aa _ (aa _ (ah _ _ _ (by simp[ac])))))
 have h5:bk.heap[c+4]? =W (J #[V I 2,U ⟨#[]⟩,V I 0,V I 0,U ⟨#[]⟩,Y O 0 0,Y O 0 0] 78 (0,0)):=by rw[<-be];exact aa _ (aa _ (aa _ (ah _ _ _ (by simp[ac]))))
 have h3:bk.heap[c+5]? =W (J #[Z (W ⟨s,0,O⟩)] 149 (0,0)):=by rw[<-be];exact aa _ (aa _ (ah _ _ _ (by simp[ac])))
 have hZ:bk.heap[c+6]? =W (J #[V I cb] 3 (0,0)):=by rw[<-be];exact aa _ (ah _ _ _ (by simp[ac]))
 have hG:bk.heap[c+7]? =W (J #[.iface 311 (γ #[])] 308 (0,0)):=by rw[<-be];exact ah _ _ _ (by simp[ac])
 have hh:(((((w.alloc (J #[Z (W ⟨s,0,O⟩)] 149)).alloc (J #[V I (ba:Int)] 3)).alloc (J #[V I 0,U ⟨#[]⟩,V I 0,V I 0,U ⟨#[]⟩,Y O 0 0,Y O 0 0] 78)).alloc (J #[.nilIface] 41)).alloc (J #[V I 2,U ⟨#[]⟩,V I 0,V I 0,U ⟨#[]⟩,Y O 0 0,Y O 0 0] 78)).cell? ⟨c,0,O⟩=W (Z (W ⟨s,0,O⟩)):=by rw[<-ac];exact ae (aa _ (aa _ (aa _ (aa _ (af w _))))) 0
 have i6:(((((w.alloc (J #[Z (W ⟨s,0,O⟩)] 149)).alloc (J #[V I (ba:Int)] 3)).alloc (J #[V I 0,U ⟨#[]⟩,V I 0,V I 0,U ⟨#[]⟩,Y O 0 0,Y O 0 0] 78)).alloc (J #[.nilIface] 41)).alloc (J #[V I 2,U ⟨#[]⟩,V I 0,V I 0,U ⟨#[]⟩,Y O 0 0,Y O 0 0] 78)).heap.size=c+5:=by simp[ac]
 have h2:=b.far fG (λe=>e) (λe=>e) (λ_ _ _ e=>e);have hm:=jS true bb cb s ck (c+5) (c+5+1) (c+5+1+1) bk h3 hZ hG (λe c6=>by
  obtain⟨i,g7,rfl⟩:=List.getElem_of_mem c6;obtain⟨ct,e5,_⟩:=hw i _ (zE g7);exact⟨ct,ip e5,λ_=>e5⟩)
 have hQ:DcI w c s av cf ba ck bb b4 b8 0 (λk=>k=s\/k=av\/k=c+4) bk:=⟨λk j=>by rw[hs];omega,λk j=>by omega,.inl rfl,.inr (.inl rfl),.inr (.inr rfl),by omega,by rw[List.drop_zero];exact h2,⟨Y O 0 0,Y O 0 0,[],xO,h5,World.ownsRow_nil _ _ _ _,World.ownsRow_nil _ _ _ _,λk b=>by simp[Value.ownBlock]at b,λk b=>by simp[Value.ownBlock]at b,by rw[List.take_zero];unfold xU;rfl,λ_ b=>b.elim⟩,fG.mono (λ_ _ e=>e.elim),hz,d3,e0,ks⟩;rw[g2]at hm;obtain⟨kf,d1,e4,m9,p2,nv⟩:=zx6 be ac hs hm hQ hw;obtain⟨l8,nb,d0⟩:=zx3 hK k0 g8;have c4:=zD (θ g2 (θ d6 (θ hE d5)));have qb:=zD fG;clear be fG hs hz d3 e0 ks h5 h3 hZ hG h2 hm hQ hw hK k0 g8 b k5 g2 d6 d5 hE;refine callsIn_wide.1 (callsIn_of_wp_marks (n:=5) func155 rfl trivial (wpIn_wide.2 ?_));simp only[ntmps155,List.size_toArray,zO,List.length_nil,Nat.reduceAdd,Nat.reduceSub,Array.replicate_succ,Array.replicate_zero,List.push_toArray,List.append_toArray,List.nil_append,List.cons_append]
 go_upto_region 2 with (fail)
 go_wp2_with fail
 refine(jT s cb 311 _ _).mono ?_;rintro e q3 ⟨rfl,rfl⟩;rw[i6];clear ac hh i6;rw[kf.out];clear kf
 go_wp2_with fail
 rw[show c+1+1+1+1=c+4 by omega,show c+1+1+1=c+3 by omega,show c+1+1=c+2 by omega];refine wpIn_wide.1 (aC (n:=5) (gf:=235) (lb:=#[Z (W ⟨c+5,0,O⟩),Z (W ⟨c+5+1,0,O⟩),Z (W ⟨c+5+1+1,0,O⟩)]) rfl (λargs wx=>kW args wx)
  m9.out (λk e=>e.elim) (λk e=>by have:=e4.out;omega) (λt v l1 d b=>by obtain⟨⟨e,v,_,rfl,_⟩,_⟩:=b;rfl)
  (DcI w c s av cf ba ck bb b4 b8) (λ_ _ _=>False) (λk=>k=s\/k=av\/k=c+4) (λk b=>?hF0) p2.out ?hI (λ_ _ _ _ b _=>b) (λt cl d b=>⟨_,_,b.rd⟩) (λ_ _ _ _=>trivial) ?round ?done (λ_ _ _ b=>b.elim))
 case hF0=>
  have:=e4.out;refine⟨λe=>e,λe=>?_,by omega,by omega,λ_=>by omega⟩;omega
 case hI=>
  rintro t cl d pr b bR;exact b.step d1.out d0.out bR (λk e=>⟨e.1,by have:=e4.out;rcases e.2 with b|b;exact b.elim;omega⟩)
 case round=>
  rintro t cl l1 p8 d K q4 nn hI ⟨⟨e,v,c6,rfl,ab⟩,rfl⟩ n2 ch g;have f0:=e4.out;rw[f0]at nn ch;obtain⟨i1,hB,hU,rfl⟩:∃a n hD,v=Y a n hD:=by obtain⟨a,_,_,hD,b,_⟩:=ab;exact⟨_,_,_,b⟩
  gi_wp2
  refine g _ _ ((ξ _ d).alloc _) ?_;intro a6 gd _ _;rw[f0]at gd;have a2:Far (·=c+8+1) d a6:=((ξ (·=c+8+1) d).alloc (J #[V I e.no,V I e.col,Y i1 hB hU] 220)).trans gd;have f4:=gd.heap (af d (J #[V I e.no,V I e.col,Y i1 hB hU] 220)) (by omega);obtain⟨q,f1⟩:∃q,d.heap.size=q:=⟨_,rfl⟩;rw[f1]at f4 ⊢;have dc:=hI.step d1.out d0.out a2 (λk e=>⟨λj=>(ch k j).2.1 e,by omega⟩);have k6:=ab.far a2 (λk j _ e=>by have:=d0.out k j;omega);have q0:=a2.size;have lc:∀k,cl k->k < q:=λk j=>by rw[<-f1];exact hI.lt k j
  have k2:=lt_of_heap f4;obtain⟨l7,n1,c1,f3,oj,x,mb,hP,an,c2,kd,j9⟩:=nv.out t e c6;obtain⟨hC,ky⟩:=l8.out e (zL c6);have co:=dc.rd;rw[aE bb t e c6]at co;have js:Glob a6:=nb.out.far dc.far (λk j e=>by rcases e with rfl|rfl<;>omega);have fn:=tD s av (cf+3 * t) (ba+1) ck e _ _ x mb oj a6 co k6 hP an c1 f3 hC ky js ps pa (by have:=c4.out.2.2.1;omega) (by have:=c4.out.2.2.1;subst this;exact j9);have ds:IntKind.i64.wrap ((ba:Int)+1)=((ba+1:Nat):Int):=by have:=c4.out.2.2.1;subst this;rfl
  have p6:c+8<=q:=by omega
  have rb:t<=100000:=by have:=c4.out.1;omega
  obtain⟨SX,hb⟩:∃ot,xR x.s=U ot:=⟨_,rfl⟩;unfold scV at fn;rw[hb]at fn;obtain⟨hF,pe⟩:=zx2 fn dc;have hq:=zD (θ c2 (θ kd hb));obtain⟨h1,ra⟩:=zx2 lc f1;obtain⟨hh,_⟩:=sS dc.bx.1;obtain⟨p1,_⟩:=sS dc.bx.2.1;obtain⟨op,ne,ls,_⟩:=bv f4;obtain⟨hn,he,ht,hp,hc⟩:=info_parts ru;clear fn dc hI ab k6 js co c2 kd hb l7 n1 c1 f3 hP an j9 hC ky c6 lc f1 a2 gd g n2 f4
  gi_wp2
  refine⟨trivial,callsIn_wide.2 (hF.out.mono ?_)⟩;rintro kl a3 ⟨⟨hr,rfl,db⟩,i0,al⟩;obtain⟨G,F,N,P,H,M,C,L,A,E,R,rfl⟩:=db.form;have hk:=al.size;obtain⟨f,gg⟩:∃q,a3.heap.size=q:=⟨_,rfl⟩;have f5:Far xO a3 ((a3.alloc (J #[V I x.k,V I x.n,U SX] 30)).alloc (J #[V I G,U F,V I N,V I P,U H,Y M C L,Y A E R] 78)):=((ξ _ a3).alloc _).alloc _;have e1:((a3.alloc (J #[V I x.k,V I x.n,U SX] 30)).alloc (J #[V I G,U F,V I N,V I P,U H,Y M C L,Y A E R] 78)).heap[f]? =W (J #[V I x.k,V I x.n,U SX] 30 (0,0)):=by rw[<-gg];exact aa _ (af a3 _)
  have b2:((a3.alloc (J #[V I x.k,V I x.n,U SX] 30)).alloc (J #[V I G,U F,V I N,V I P,U H,Y M C L,Y A E R] 78)).heap[f+1]? =W (J #[V I G,U F,V I N,V I P,U H,Y M C L,Y A E R] 78 (0,0)):=ah _ _ _ (by simp[gg]);have om:((a3.alloc (J #[V I x.k,V I x.n,U SX] 30)).alloc (J #[V I G,U F,V I N,V I P,U H,Y M C L,Y A E R] 78)).heap.size=f+2:=by simp[gg]
  have i9:=xS.far f5 (λ_ _ _ e=>e) _ _ (xS.mono (G':=λk=>a6.heap.size<=k/\k < f) (λk ct e5=>⟨ct,by omega⟩) _ _ db);have hV:=i0.far f5 (λe=>e) (λe=>e) (λ_ _ _ e=>e);have h6:Far (λk=>k=s\/k=av) a6 ((a3.alloc (J #[V I x.k,V I x.n,U SX] 30)).alloc (J #[V I G,U F,V I N,V I P,U H,Y M C L,Y A E R] 78)):=al.step f5 (λ_ _ e=>e.elim);obtain⟨p4,l9,fl⟩:=zx3 i9 hV h6;have q6:q < f:=by omega
  have rv:a6.heap.size<=f:=by omega
  clear db i0 al h6 i9 hV f5 hF hh p1 op ne ls
  gi_wp2_with (fail)
  clear gg;generalize ((a3.alloc (J #[V I x.k,V I x.n,U SX] 30)).alloc (J #[V I G,U F,V I N,V I P,U H,Y M C L,Y A E R] 78))=u at *;have a4:=pe.out;obtain⟨kv,ho,gl,gk,hX,f8,gx,df,ft,hA,ca⟩:=a4.row;obtain⟨o,r,rfl⟩:∃m l,kv=Y m t l:=by
   rcases f8.2 with ⟨ab,bm⟩|⟨g3,hj,g4,ab,_⟩
   ·exact⟨O,0,by rw[ab,bm]⟩
   ·exact⟨_,_,ab⟩
  obtain⟨m,l,rfl⟩:∃m l,ho=Y m t l:=by
   rcases gx.2 with ⟨ab,bm⟩|⟨g3,hj,g4,ab,_⟩
   ·exact⟨O,0,by rw[ab,bm]⟩
   ·exact⟨_,_,ab⟩
  have gr:=a4.lt;have c9:∀k,(Value.slice o t r).ownBlock=W k->k < q:=λk b=>h1.out k (ft k b);have ds:∀k,(Value.slice m t l).ownBlock=W k->k < q:=λk b=>h1.out k (df k b).1;have gc:∀k,(Value.slice o t r).ownBlock=W k->c+8<=k:=λk b=>(f8.lt k b).1;have f7:∀k,(Value.slice m t l).ownBlock=W k->c+8<=k:=λk b=>(gx.lt k b).1;have er:=fl.out.heap hX (by omega);have dp:=am f8 fl.out (λk e kl=>by have:=gc k e;omega);have i4:=am gx fl.out (λk e kl=>by have:=f7 k e;omega);have hY:u.cell? ⟨c+4,5,O⟩=W (Y o t r)/\u.cell? ⟨c+4,6,O⟩=W (Y m t l)/\u.cell? ⟨f,0,O⟩=W (V I x.k)/\u.cell? ⟨f,1,O⟩=W (V I x.n)/\u.cell? ⟨f,2,O⟩=W (U SX)/\u.cell? ⟨f+1,0,O⟩=W (V I G)/\u.cell? ⟨f+1,1,O⟩=W (U F)/\u.cell? ⟨f+1,2,O⟩=W (V I N)/\u.cell? ⟨f+1,3,O⟩=W (V I P)/\u.cell? ⟨f+1,4,O⟩=W (U H)/\u.cell? ⟨f+1,5,O⟩=W (Y M C L)/\u.cell? ⟨f+1,6,O⟩=W (Y A E R):=⟨ae er 5,ae er 6,ae e1 0,ae e1 1,ae e1 2,ae b2 0,ae b2 1,ae b2 2,ae b2 3,ae b2 4,ae b2 5,ae b2 6⟩;have b0:∀wx,Far (λk=>(Value.slice o t r).ownBlock=W k\/(Value.slice m t l).ownBlock=W k) u wx->wx.cell? ⟨c+4,5,O⟩=W (Y o t r)/\wx.cell? ⟨c+4,6,O⟩=W (Y m t l)/\wx.cell? ⟨f,0,O⟩=W (V I x.k)/\wx.cell? ⟨f,1,O⟩=W (V I x.n)/\wx.cell? ⟨f,2,O⟩=W (U SX)/\wx.cell? ⟨f+1,0,O⟩=W (V I G)/\wx.cell? ⟨f+1,1,O⟩=W (U F)/\wx.cell? ⟨f+1,2,O⟩=W (V I N)/\wx.cell? ⟨f+1,3,O⟩=W (V I P)/\wx.cell? ⟨f+1,4,O⟩=W (U H)/\wx.cell? ⟨f+1,5,O⟩=W (Y M C L)/\wx.cell? ⟨f+1,6,O⟩=W (Y A E R):=λwx bR=>by
   have ac:=bR.heap er (λe=>by rcases e with e|e;(have:=gc _ e;omega);have:=f7 _ e;omega);have hf:=bR.heap e1 (λe=>by rcases e with e|e;(have:=c9 _ e;omega);have:=ds _ e;omega);have c5:=bR.heap b2 (λe=>by rcases e with e|e;(have:=c9 _ e;omega);have:=ds _ e;omega);exact⟨ae ac 5,ae ac 6,ae hf 0,ae hf 1,ae hf 2,ae c5 0,ae c5 1,ae c5 2,ae c5 3,ae c5 4,ae c5 5,ae c5 6⟩
  have c1:t+1<=maxLen:=by unfold maxLen;omega
  refine aN (λw'=>w'.cell? ⟨c+4,5,O⟩=W (Y o t r)/\w'.cell? ⟨c+4,6,O⟩=W (Y m t l)/\w'.cell? ⟨f,0,O⟩=W (V I x.k)/\w'.cell? ⟨f,1,O⟩=W (V I x.n)/\w'.cell? ⟨f,2,O⟩=W (U SX)/\w'.cell? ⟨f+1,0,O⟩=W (V I G)/\w'.cell? ⟨f+1,1,O⟩=W (U F)/\w'.cell? ⟨f+1,2,O⟩=W (V I N)/\w'.cell? ⟨f+1,3,O⟩=W (V I P)/\w'.cell? ⟨f+1,4,O⟩=W (U H)/\w'.cell? ⟨f+1,5,O⟩=W (Y M C L)/\w'.cell? ⟨f+1,6,O⟩=W (Y A E R)) [11,12,13] (by kernel_rfl) (by kernel_rfl) (λb=>by obtain⟨_,_,b⟩:=b;exact b) ?_;refine ay 10 (by kernel_rfl) (λ_ _ _ _ b=>b) (show (λw'=>w'.cell? ⟨c+4,5,O⟩=W (Y o t r)/\w'.cell? ⟨c+4,6,O⟩=W (Y m t l)/\w'.cell? ⟨f,0,O⟩=W (V I x.k)/\w'.cell? ⟨f,1,O⟩=W (V I x.n)/\w'.cell? ⟨f,2,O⟩=W (U SX)/\w'.cell? ⟨f+1,0,O⟩=W (V I G)/\w'.cell? ⟨f+1,1,O⟩=W (U F)/\w'.cell? ⟨f+1,2,O⟩=W (V I N)/\w'.cell? ⟨f+1,3,O⟩=W (V I P)/\w'.cell? ⟨f+1,4,O⟩=W (U H)/\w'.cell? ⟨f+1,5,O⟩=W (Y M C L)/\w'.cell? ⟨f+1,6,O⟩=W (Y A E R)) u.drew from hY) 8 [0,1,2,5,6,7] _ _ (by kernel_rfl) ?_;iterate 6 (refine ax (v:=?_) ?_ ?_;rotate_left;·(intro d4 S;(try dsimp only at S);(try obtain⟨ge,e7,ga,fr,gb,fv,e8,f6,g5,hy,hg,ha⟩:=S);go_simp;try with_reducible rfl);(try go_frame))
  refine xT.done ?_;try dsimp only
  have fz:Far xO u u.drew:=(ξ _ u).drew;obtain⟨dv,h9⟩:∃d,u.drew=d:=⟨_,rfl⟩;rw[h9]at fz ⊢;clear h9 hY;refine aq [3,8] ?_;refine aj rfl (λK g=>?_) (aj rfl (λK g=>?_) (xQ.nil))
  go_simp
  have bw:=fz.alloc (J #[V I x.k,V I x.n,U SX] 30);have a9:=af dv (J #[V I x.k,V I x.n,U SX] 30);refine g.out _ _ (λ_=>b0 _ (bw.mono (λk _ e=>e.elim))) ?_;clear g K
  (try go_frame)
  obtain⟨g0,ad⟩:∃z,dv.heap.size=z:=⟨_,rfl⟩;rw[ad]at a9 ⊢;obtain⟨b1,ao⟩:∃d,dv.alloc (J #[V I x.k,V I x.n,U SX] 30)=d:=⟨_,rfl⟩;rw[ao]at bw a9 ⊢;clear ao ad;refine aq [4,8] ?_;refine aj rfl (λK g=>?_) (aj rfl (λK g=>?_) (xQ.nil));have cc:=br a9;have b6:=am dp bw (λ_ _ e=>e);have ei:=bw.size;refine wp_append_lies b1 (.tmp 34) (.tmp 36) 28 rfl (c+8) 30 hn _ 3 32 underlying28 he ht hp hc rfl (by decide) (Y o t r) t _ rfl b6 ⟨g0,0,O⟩ 1 1 [V I x.k,V I x.n,U SX] rfl rfl cc (by simp[Value.oneCell']) (by decide) c1 (by omega) (by omega) b1.heap.size rfl ?_;intro T dr bD an a0 a5 cv;have hu:Far (λk=>(Value.slice o t r).ownBlock=W k) u bD:=(bw.mono (λ_ _ e=>e.elim)).grown a0 (λk e _=>e);have dn:(Value.slice o t r).ownBlock=W T\/u.heap.size<=T:=by
   rcases a5 with e|e
   ·exact .inl e
   ·exact .inr (by omega)
  clear a0 a5 cc b6 ei;have bn:=b0 _ (hu.mono (λ_ _ e=>.inl e));refine g.out _ _ (λ_=>bn) ?_;clear g K
  (try go_frame)
  refine ay 10 (by kernel_rfl) (λ_ _ _ _ b=>b) bn 5 [10] _ _ (by kernel_rfl) ?_;iterate 1 (refine ax (v:=?_) ?_ ?_;rotate_left;·(intro d4 S;(try dsimp only at S);(try obtain⟨ge,e7,ga,fr,gb,fv,e8,f6,g5,hy,hg,ha⟩:=S);go_simp;try with_reducible rfl);(try go_frame))
  refine xT.done ?_;try dsimp only
  clear bn;refine aq [8] ?_;refine aj rfl (λK g=>?_) xQ.nil
  go_simp
  have b3:=hu.alloc (J #[V I G,U F,V I N,V I P,U H,Y M C L,Y A E R] 78);have y:=af bD (J #[V I G,U F,V I N,V I P,U H,Y M C L,Y A E R] 78);have kb:=an.alloc (J #[V I G,U F,V I N,V I P,U H,Y M C L,Y A E R] 78);clear an;have an:=kb;clear kb;refine g.out _ _ (λ_=>b0 _ (b3.mono (λk _ e=>.inl e))) ?_;clear g K
  (try go_frame)
  have en:=hu.size;obtain⟨hi,ad⟩:∃z,bD.heap.size=z:=⟨_,rfl⟩;rw[ad]at y ⊢;obtain⟨cm,ao⟩:∃d,bD.alloc (J #[V I G,U F,V I N,V I P,U H,Y M C L,Y A E R] 78)=d:=⟨_,rfl⟩;rw[ao]at b3 y an ⊢;rw[ad]at en
  replace cv:T < cm.heap.size:=by rw[<-ao];simp;omega
  clear ao ad;have a2:=b3;have a1:∃d,cm=d:=⟨_,rfl⟩;obtain⟨e2,a1⟩:=a1;rw[a1]at a2 an y cv ⊢;clear a1
  rotate_left
  go_simp
  have bs:=bw.alloc (J #[V I G,U F,V I N,V I P,U H,Y M C L,Y A E R] 78);have y:=af b1 (J #[V I G,U F,V I N,V I P,U H,Y M C L,Y A E R] 78);have le:=aa (J #[V I G,U F,V I N,V I P,U H,Y M C L,Y A E R] 78) a9;clear a9;have a9:=le;clear le;refine g.out _ _ (λ_=>b0 _ (bs.mono (λk _ e=>e.elim))) ?_;clear g K
  (try go_frame)
  have en:=bw.size;obtain⟨hi,ad⟩:∃z,b1.heap.size=z:=⟨_,rfl⟩;rw[ad]at y ⊢;obtain⟨bD,ao⟩:∃d,b1.alloc (J #[V I G,U F,V I N,V I P,U H,Y M C L,Y A E R] 78)=d:=⟨_,rfl⟩;rw[ao]at bs y a9 ⊢;rw[ad]at en;clear ao ad;refine aq [4] ?_;refine aj rfl (λK g=>?_) xQ.nil;have cc:=br a9;have b6:=am dp bs (λ_ _ e=>e);have ei:=bs.size;refine wp_append_lies bD (.tmp 34) (.tmp 36) 28 rfl (c+8) 30 hn _ 3 32 underlying28 he ht hp hc rfl (by decide) (Y o t r) t _ rfl b6 ⟨g0,0,O⟩ 1 1 [V I x.k,V I x.n,U SX] rfl rfl cc (by simp[Value.oneCell']) (by decide) c1 (by omega) (by omega) bD.heap.size rfl ?_;intro T dr cm an a0 a5 cv;have b3:Far (λk=>(Value.slice o t r).ownBlock=W k) u cm:=(bs.mono (λ_ _ e=>e.elim)).grown a0 (λk e _=>e);have dn:(Value.slice o t r).ownBlock=W T\/u.heap.size<=T:=by
   rcases a5 with e|e
   ·exact .inl e
   ·exact .inr (by omega)
  have eg:=(a0.block _ (lt_of_heap y) (λe=>by have:=(dp.lt _ e.symm).2;have:=c9 _ e.symm;omega)).trans y;clear y;have y:=eg;clear eg;clear a0 a5 cc b6 ei;have bn:=b0 _ (b3.mono (λ_ _ e=>.inl e));refine g.out _ _ (λ_=>bn) ?_;clear g K
  (try go_frame)
  refine ay 10 (by kernel_rfl) (λ_ _ _ _ b=>b) bn 4 [10] _ _ (by kernel_rfl) ?_;iterate 1 (refine ax (v:=?_) ?_ ?_;rotate_left;·(intro d4 S;(try dsimp only at S);(try obtain⟨ge,e7,ga,fr,gb,fv,e8,f6,g5,hy,hg,ha⟩:=S);go_simp;try with_reducible rfl);(try go_frame))
  refine xT.done ?_;try dsimp only
  clear bn;have a2:=b3;have a1:∃d,cm=d:=⟨_,rfl⟩;obtain⟨e2,a1⟩:=a1;rw[a1]at a2 an y cv ⊢;clear a1
  rotate_left
  go_simp
  have bw:=fz.alloc (J #[V I G,U F,V I N,V I P,U H,Y M C L,Y A E R] 78);have y:=af dv (J #[V I G,U F,V I N,V I P,U H,Y M C L,Y A E R] 78);refine g.out _ _ (λ_=>b0 _ (bw.mono (λk _ e=>e.elim))) ?_;clear g K
  (try go_frame)
  have en:=fz.size;obtain⟨hi,ad⟩:∃z,dv.heap.size=z:=⟨_,rfl⟩;rw[ad]at y ⊢;obtain⟨b1,ao⟩:∃d,dv.alloc (J #[V I G,U F,V I N,V I P,U H,Y M C L,Y A E R] 78)=d:=⟨_,rfl⟩;rw[ao]at bw y ⊢;rw[ad]at en;clear ao ad;refine aq [3] ?_;refine aj rfl (λK g=>?_) xQ.nil
  go_simp
  have bs:=bw.alloc (J #[V I x.k,V I x.n,U SX] 30);have a9:=af b1 (J #[V I x.k,V I x.n,U SX] 30);have hT:=aa (J #[V I x.k,V I x.n,U SX] 30) y;clear y;have y:=hT;clear hT;refine g.out _ _ (λ_=>b0 _ (bs.mono (λk _ e=>e.elim))) ?_;clear g K
  (try go_frame)
  obtain⟨g0,ad⟩:∃z,b1.heap.size=z:=⟨_,rfl⟩;rw[ad]at a9 ⊢;obtain⟨bD,ao⟩:∃d,b1.alloc (J #[V I x.k,V I x.n,U SX] 30)=d:=⟨_,rfl⟩;rw[ao]at bs a9 y ⊢;clear ao ad;refine aq [4] ?_;refine aj rfl (λK g=>?_) xQ.nil;have cc:=br a9;have b6:=am dp bs (λ_ _ e=>e);have ei:=bs.size;refine wp_append_lies bD (.tmp 34) (.tmp 36) 28 rfl (c+8) 30 hn _ 3 32 underlying28 he ht hp hc rfl (by decide) (Y o t r) t _ rfl b6 ⟨g0,0,O⟩ 1 1 [V I x.k,V I x.n,U SX] rfl rfl cc (by simp[Value.oneCell']) (by decide) c1 (by omega) (by omega) bD.heap.size rfl ?_;intro T dr cm an a0 a5 cv;have b3:Far (λk=>(Value.slice o t r).ownBlock=W k) u cm:=(bs.mono (λ_ _ e=>e.elim)).grown a0 (λk e _=>e);have dn:(Value.slice o t r).ownBlock=W T\/u.heap.size<=T:=by
   rcases a5 with e|e
   ·exact .inl e
   ·exact .inr (by omega)
  have eg:=(a0.block _ (lt_of_heap y) (λe=>by have:=(dp.lt _ e.symm).2;have:=c9 _ e.symm;omega)).trans y;clear y;have y:=eg;clear eg;clear a0 a5 cc b6 ei;have bn:=b0 _ (b3.mono (λ_ _ e=>.inl e));refine g.out _ _ (λ_=>bn) ?_;clear g K
  (try go_frame)
  refine ay 10 (by kernel_rfl) (λ_ _ _ _ b=>b) bn 4 [10] _ _ (by kernel_rfl) ?_;iterate 1 (refine ax (v:=?_) ?_ ?_;rotate_left;·(intro d4 S;(try dsimp only at S);(try obtain⟨ge,e7,ga,fr,gb,fv,e8,f6,g5,hy,hg,ha⟩:=S);go_simp;try with_reducible rfl);(try go_frame))
  refine xT.done ?_;try dsimp only
  clear bn;have a2:=b3;have a1:∃d,cm=d:=⟨_,rfl⟩;obtain⟨e2,a1⟩:=a1;rw[a1]at a2 an y cv ⊢;clear a1;all_goals (
   have q1:=cv;have q9:=a2.size;have it:=am i4 a2 (λk j e=>(df k j).2 e);refine aq [9] ?_;refine aj rfl (λK g=>?_) xQ.nil;refine wp_append_lies e2 (.tmp 39) (.tmp 41) 76 rfl (c+8) 78 pb _ 7 104 underlying76 g7 o0 nf n4 rfl (by decide) (Y m t l) t gl rfl it ⟨hi,0,O⟩ 1 1 [V I G,U F,V I N,V I P,U H,Y M C L,Y A E R] rfl rfl (br y) (by simp[Value.oneCell']) (by decide) c1 (by omega) (by omega) e2.heap.size rfl ?_;intro e3 n0 eq g6 a0 a5 ro;have fR:Far (λk=>(Value.slice o t r).ownBlock=W k\/(Value.slice m t l).ownBlock=W k) u eq:=(a2.mono (λ_ _ e=>.inl e)).grown a0 (λk e _=>.inr e);have h8:=b0 _ fR;refine g.out _ _ (λ_=>h8) ?_;clear g K
   (try go_frame)
   have hR:(Value.slice m t l).ownBlock≠W T:=λe=>by
    rcases dn with b|b
    ·exact(df T e).2 b
    ·have:=ds T e;omega
   have f3:T≠e3:=λe=>by
    rcases a5 with b|b
    ·exact hR (e ▸ b)
    ·omega
   have k3:=am an ((ξ (λk=>(Value.slice m t l).ownBlock=W k) e2).grown a0 (λk e _=>e)) (λk e b=>by injection e with e;dsimp only at e;subst e;exact hR b);have hd:=fR.heap er (λe=>by rcases e with e|e;(have:=gc _ e;omega);have:=f7 _ e;omega);have qk:c+8<=T:=(an.lt T rfl).1;have rs:c+8<=e3:=(g6.lt e3 rfl).1;have k1:∀bx:World,bx.heap[c+4]? =W (J #[V I 2,U ⟨#[]⟩,V I 0,V I 0,U ⟨#[]⟩,(Y (W ⟨T,0,O⟩) (t+1) dr),(Y (W ⟨e3,0,O⟩) (t+1) n0)] 78 (0,0))->Far (·=c+4) eq bx->
    ∃h7,DcI w c s av cf ba ck bb b4 b8 (t+1) h7 bx/\Far cl a6 bx/\∀k,h7 k->(cl k\/xO k\/q<=k)/\(True->k < bx.heap.size):=by
    intro bx on bR;have rd:=om;have e9:Far (λk=>k=c+4\/(Value.slice o t r).ownBlock=W k\/(Value.slice m t l).ownBlock=W k) u bx:=(fR.mono (λ_ _ e=>.inr e)).step bR (λk _ e=>.inl e);have c0:Far (λk=>k=s\/k=av\/(k=c+4\/(Value.slice o t r).ownBlock=W k\/(Value.slice m t l).ownBlock=W k)) a6 bx:=(fl.out.mono (λk _ e=>by rcases e with e|e;exact .inl e;exact .inr (.inl e))).step e9 (λk _ e=>.inr (.inr e));have i5:Far cl a6 bx:=c0.mono (λk _ e=>by
     rcases e with rfl|rfl|rfl|e|e
     ·exact a4.fR
     ·exact a4.fG
     ·exact a4.f4
     ·exact ft k e
     ·exact(df k e).1)
    have da:∀k,(k=c+4\/(Value.slice o t r).ownBlock=W k\/(Value.slice m t l).ownBlock=W k)->(k=c+4\/c+8<=k)/\k < q:=λk b=>by
     rcases b with b|b|b
     ·exact⟨.inl b,by omega⟩
     ·exact⟨.inr (gc k b),c9 k b⟩
     ·exact⟨.inr (f7 k b),ds k b⟩
    have p0:∀k,gk k->e3≠k/\T≠k:=λk j=>⟨λe=>by
     rcases a5 with b|b
     ·exact(ca k j).2.2.1 (e ▸ b)
     ·have:=gr k (ca k j).1;omega,λe=>by
     rcases dn with b|b
     ·exact(ca k j).2.2.2 (e ▸ b)
     ·have:=gr k (ca k j).1;omega⟩
    have oi:xU bx (λk=>gk k\/(a6.heap.size<=k/\k < f)) (b8.take (t+1)) (gl++[V I G,U F,V I N,V I P,U H,Y M C L,Y A E R]):=by
     rw[zG,hq.out.2.1];exact xU.snoc (xS.mono (λ_ b _=>.inr b) _ _ (xS.far e9 (λk j _ e=>by
      have no:=k2;have:=(da k e).2;omega) _ _ p4.out)) _ _ (xU.mono (λ_ b _=>.inl b) _ _ (xU.far c0 (λk j _ e=>by
      have ct:=ca k j;rcases e with e|e|e|e|e
      ·omega
      ·omega
      ·omega
      ·exact ct.2.2.2 e
      ·exact ct.2.2.1 e) _ _ hA))
    have lt:xV (b4.take (t+1))=xV (b4.take t)++[V I x.k,V I x.n,U SX]:=by
     rw[zG,hq.out.1];unfold xV;rw[List.flatMap_append];simp[hq.out.2.2]
    have q5:=i5.size;have rc:=bR.size;have rt:=e9.size;have rn:=a0.size;have no:=k2;refine⟨λk=>cl k\/(f<=k/\k < bx.heap.size)\/(a6.heap.size<=k/\k < f),⟨?_,?_,.inl a4.fR,.inl a4.fG,.inl a4.f4,?_,?_,⟨_,_,_,λk=>gk k\/(a6.heap.size<=k/\k < f),on,by rw[lt];exact am k3 bR (λk e b=>by injection e with e;dsimp only at e;omega),am g6 bR (λk e b=>by injection e with e;dsimp only at e;omega),?_,?_,oi,?_⟩,?_,?_⟩,i5,?_⟩
    ·rintro k (b|b|b)
     ·have:=gr k b;omega
     ·exact b.2
     ·omega
    ·rintro k (b|b|b)
     ·exact a4.fr k b
     ·right;right;omega
     ·right;right;omega
    ·have S:=a4.nb
     refine⟨?_,?_,?_,?_⟩<;>(intro b;rcases b with b|b|b<;>first|omega|(first|exact S.1 b|exact S.2.1 b|exact S.2.2.1 b|exact S.2.2.2 b))
    ·have S:=l9.out.far e9 (λe=>by have:=da s e;omega) (λe=>by have:=da av e;omega) (λk j _ e=>by have:=d0.out k j;have:=da k e;omega)
     rw[show cf+3 * (t+1)=cf+3 * t+3 by omega];exact S
    ·intro k e
     injection e with e;dsimp only at e
     subst e;refine⟨?_,λe=>?_⟩
     ·rcases a5 with b|b
      ·exact .inl (df _ b).1
      ·exact .inr (.inl ⟨by omega,by omega⟩)
     ·injection e with e
      exact f3 e
    ·intro k e
     injection e with e;dsimp only at e
     subst e;rcases dn with b|b
     ·exact .inl (ft _ b)
     ·exact .inr (.inl ⟨by omega,by omega⟩)
    ·rintro k (b|b)
     ·obtain⟨d3,e0⟩:=p0 k b
      exact⟨.inl (ca k b).1,(ca k b).2.1,λe=>by injection e with e;exact d3 e,λe=>by injection e with e;exact e0 e⟩
     ·refine⟨.inr (.inr b),by omega,λe=>?_,λe=>?_⟩
      ·injection e with e
       dsimp only at e
       rcases a5 with e6|e6
       ·have:=ds _ e6;omega
       ·omega
      ·injection e with e
       dsimp only at e
       rcases dn with e6|e6
       ·have:=c9 _ e6;omega
       ·omega
    ·exact a4.far.step c0 (λk j e=>by
      rw[d1.out]at j;rcases e with e|e|e
      ·exact .inl e
      ·exact .inr e
      ·have:=da k e;omega)
    ·have c2:=a4.bx
     have bm:∀k,(k=c\/k=c+1\/k=c+2\/k=c+3)->¬(k=s\/k=av\/(k=c+4\/(Value.slice o t r).ownBlock=W k\/(Value.slice m t l).ownBlock=W k)):=λk j e=>by
      rcases e with e|e|e
      ·omega
      ·omega
      ·have:=da k e;omega
     exact⟨c0.heap c2.1 (bm _ (.inl rfl)),c0.heap c2.2.1 (bm _ (.inr (.inl rfl))),c0.heap c2.2.2.1 (bm _ (.inr (.inr (.inl rfl)))),c0.heap c2.2.2.2 (bm _ (.inr (.inr (.inr rfl))))⟩
    ·rintro k (b|b|b)
     ·exact⟨.inl b,λ_=>by have:=gr k b;omega⟩
     ·exact⟨.inr (.inr (by omega)),λ_=>b.2⟩
     ·exact⟨.inr (.inr (by omega)),λ_=>by omega⟩
   have pc:=zD k1;clear k1 g6 an k3 a2 fR er i4 hA ca dp ft df a0 it y b0 e1 b2 hX f8 gx a4;obtain⟨m4,pl,_⟩:=h8;have l0:=ag hd 5;refine aq [11] ?_;refine aj rfl (λK g=>?_) xQ.nil
   go_simp
   refine g.out _ _ (λb=>absurd (by simp) b) ?_;clear g K
   (try go_frame)
   refine ee (by kernel_rfl) (λ_ _ _ _ b=>b) 1 [12] _ _ (by kernel_rfl) ?_;iterate 1 (refine ax (v:=?_) ?_ ?_;rotate_left;·(intro d4 S;go_simp;try with_reducible rfl);(try go_frame))
   refine xT.done ?_;try dsimp only
   have g1:=ai hd 5 (Y (W ⟨T,0,O⟩) (t+1) dr);have h4:Far (·=c+4) eq (eq.setCell ⟨c+4,5,O⟩ (Y (W ⟨T,0,O⟩) (t+1) dr)):=Far.setCell (D:=(·=c+4)) (ξ _ _) (p:=⟨c+4,5,O⟩) (λ_=>rfl) _;obtain⟨hL,k4⟩:∃hL,eq.setCell ⟨c+4,5,O⟩ (Y (W ⟨T,0,O⟩) (t+1) dr)=hL:=⟨_,rfl⟩;rw[k4]at g1 h4 ⊢;clear k4 m4 pl l0 hd;have d3:=zF g1 6 rfl;have e0:=ag g1 6;refine aq [13] ?_;refine aj rfl (λK g=>?_) xQ.nil
   go_simp
   refine g.out _ _ (λb=>absurd (by simp) b) ?_;clear g K;refine aP (by kernel_rfl) ?_ _;exact pc.out _ (ai g1 6 _) (h4.trans (Far.setCell (D:=(·=c+4)) (ξ _ _) (p:=⟨c+4,6,O⟩) (λ_=>rfl) _)))
 case done=>
  rintro cl d hI _ g ch;have f0:=e4.out;rw[f0]at g ch ⊢;have l3:=hI;obtain⟨ct,e5,q2,q8,q7,p5,co,⟨kv,ho,gl,gk,b9,es,f2,kg,kc,hv,i7⟩,kr,hl⟩:=hI;have d6:=c4.out.2.1;have d5:=c4.out.2.2.2;rw[zR (by omega)]at hv es;obtain⟨o,r,rfl⟩:∃m l,kv=Y m X l:=by
   rcases es.2 with ⟨ab,bm⟩|⟨g3,hj,g4,ab,_⟩
   ·exact⟨O,0,by rw[ab,bm]⟩
   ·exact⟨_,_,ab⟩
  rw[List.drop_of_length_le (by rw[c4.out.1];exact η _)]at co;obtain⟨m,l,rfl⟩:∃m l,ho=Y m X l:=by
   rcases f2.2 with ⟨ab,bm⟩|⟨g3,hj,g4,ab,_⟩
   ·exact⟨O,0,by rw[ab,bm]⟩
   ·exact⟨_,_,ab⟩
  have db:xS d (λk=>c+8 < k) ⟨2,[],Tp.Sc.null,b4,b8⟩ [V I 2,U ⟨#[]⟩,V I 0,V I 0,U ⟨#[]⟩,Y o X r,Y m X l]:=by
   unfold xS;refine⟨Y o X r,Y m X l,gl,rfl,?_,xU.mono (λk j _=>by have b:=i7 k j;have:=ch k b.1;omega) _ _ hv,?_⟩
   ·rw[d5]
    exact(cx es).mono (λk j _=>by have b:=(es.lt k j).1;have:=ch k (kc k j);omega)
   ·rw[d6]
    exact(cx f2).mono (λk j _=>by have b:=(f2.lt k j).1;have:=ch k (kg k j).1;omega)
  have hJ:(λd=>d.cell? ⟨c,0,O⟩=W (Z (W ⟨s,0,O⟩))/\d.cell? ⟨c+4,0,O⟩=W (V I 2)/\d.cell? ⟨c+4,1,O⟩=W (U ⟨#[]⟩)/\d.cell? ⟨c+4,2,O⟩=W (V I 0)/\d.cell? ⟨c+4,3,O⟩=W (V I 0)/\d.cell? ⟨c+4,4,O⟩=W (U ⟨#[]⟩)/\d.cell? ⟨c+4,5,O⟩=W (Y o X r)/\d.cell? ⟨c+4,6,O⟩=W (Y m X l)) d:=⟨ae hl.1 0,ae b9 0,ae b9 1,ae b9 2,ae b9 3,ae b9 4,ae b9 5,ae b9 6⟩;have kn:=nQ s av _ ck cb d.drew (co.far ((ξ xO d).drew) (λe=>e) (λe=>e) (λ_ _ _ e=>e));obtain⟨b5,h0,oe,o2,o1,la⟩:=zx6 hJ kn db co kr hl;have l4:=zD g;clear hJ kn db co kr hl g b9 es kc f2 kg hv i7 ct e5 l3 ch
  go_upto_region 8 with (fail)
  refine wp_region_noPanic ?_;refine ar (λd=>d.cell? ⟨c,0,O⟩=W (Z (W ⟨s,0,O⟩))/\d.cell? ⟨c+4,0,O⟩=W (V I 2)/\d.cell? ⟨c+4,1,O⟩=W (U ⟨#[]⟩)/\d.cell? ⟨c+4,2,O⟩=W (V I 0)/\d.cell? ⟨c+4,3,O⟩=W (V I 0)/\d.cell? ⟨c+4,4,O⟩=W (U ⟨#[]⟩)/\d.cell? ⟨c+4,5,O⟩=W (Y o X r)/\d.cell? ⟨c+4,6,O⟩=W (Y m X l)) [4,5] (by kernel_rfl) ?_;refine aJ (by kernel_rfl) (λ_ _ _ _ b=>b) (show (λd=>d.cell? ⟨c,0,O⟩=W (Z (W ⟨s,0,O⟩))/\d.cell? ⟨c+4,0,O⟩=W (V I 2)/\d.cell? ⟨c+4,1,O⟩=W (U ⟨#[]⟩)/\d.cell? ⟨c+4,2,O⟩=W (V I 0)/\d.cell? ⟨c+4,3,O⟩=W (V I 0)/\d.cell? ⟨c+4,4,O⟩=W (U ⟨#[]⟩)/\d.cell? ⟨c+4,5,O⟩=W (Y o X r)/\d.cell? ⟨c+4,6,O⟩=W (Y m X l)) d.drew from b5.out) 3 [0,1,2] _ _ (by kernel_rfl) ?_;iterate 3 (refine ax (v:=?_) ?_ ?_;rotate_left;·(intro d4 S;(try dsimp only at S);(try obtain⟨ge,e7,ga,fr,gb,fv,e8,f6⟩:=S);go_simp;try with_reducible rfl);(try go_frame))
  refine xT.done ?_;try dsimp only
  refine aq [3] ?_;refine aj rfl (λK g=>?_) xQ.nil
  go_simp
  refine h0.out.mono ?_;rintro e a3 ⟨rfl,hS⟩;have al:Far xO d a3:=((ξ _ d).drew).below hS;have hk:(λd=>d.cell? ⟨c,0,O⟩=W (Z (W ⟨s,0,O⟩))/\d.cell? ⟨c+4,0,O⟩=W (V I 2)/\d.cell? ⟨c+4,1,O⟩=W (U ⟨#[]⟩)/\d.cell? ⟨c+4,2,O⟩=W (V I 0)/\d.cell? ⟨c+4,3,O⟩=W (V I 0)/\d.cell? ⟨c+4,4,O⟩=W (U ⟨#[]⟩)/\d.cell? ⟨c+4,5,O⟩=W (Y o X r)/\d.cell? ⟨c+4,6,O⟩=W (Y m X l)) a3:=⟨al.at b5.out.1 (id),al.at b5.out.2.1 (id),al.at b5.out.2.2.1 (id),al.at b5.out.2.2.2.1 (id),al.at b5.out.2.2.2.2.1 (id),al.at b5.out.2.2.2.2.2.1 (id),al.at b5.out.2.2.2.2.2.2.1 (id),al.at b5.out.2.2.2.2.2.2.2 (id)⟩;have hx:=al.heap la.out.2.2.1 id;have kt:=al.heap la.out.2.2.2 id;refine g.out _ _ (λ_=>hk) ?_;clear g K
  (try go_frame)
  obtain⟨m2,l2,ln,ns,l5,n8,lr,nd,nx,mt,m1,p3,nm,md⟩:=bd hx;obtain⟨⟨c3,mp⟩,kk,i3,hW⟩:=nu hx kt (by omega) (V I 2) (U ⟨#[]⟩) (V I 0) (V I 0) (U ⟨#[]⟩) (Y o X r) (Y m X l) .nilIface;have hN:=(al.mono (D':=λk=>k=c+2\/k=c+3) (λ_ _ e=>e.elim)).trans hW;have ih:=zD (θ kk (θ i3 hN));clear kk i3 hW hN hx kt hS al hk h0;refine aq [4] ?_;refine aj rfl (λK g=>?_) xQ.nil
  go_simp
  refine g.out _ _ (λb=>absurd (by simp) b) ?_;clear g K
  (try go_frame)
  refine aq [5] ?_;refine aj rfl (λK g=>?_) xQ.nil
  go_simp
  refine g.out _ _ (λb=>absurd (by simp) b) ?_;clear g K
  (try go_frame)
  refine aP (by kernel_rfl) (NoPanic.normal ?_) _;obtain⟨f9,fs,ex⟩:=ih.out;have i8:=ex.heap l4.out (by omega);have ka:=xS.far ex (λk (j:c+8 < k) _ e=>by omega) _ _ oe.out;have hH:=o2.out.far ex (by omega) (by omega) (λk j _ e=>by have:=d0.out k j;omega);have hM:=o1.out.step ex (λk j e=>by have:=d1.out;omega);have i2:=zD (θ f9 (θ fs (θ i8 (θ ka (θ hH hM)))));clear f9 fs ex i8 ka hH hM ih m2 l2 ln ns l5 n8 lr nd nx mt m1 p3 nm md c3 mp
  go_wp2_with fail
  refine au (q:=c+8) rfl i2.out.2.2.1 ?_;intro pr d2;obtain⟨f9,fs,_,n5,l6,m3⟩:=i2.out;refine⟨.tuple #[γ #[V I 2,U ⟨#[]⟩,V I 0,V I 0,U ⟨#[]⟩,Y o X r,Y m X l],.nilIface],dG results155 _ (c+2) (c+3) _ _ _ (d2.heap f9 (by omega)) rfl (d2.heap fs (by omega)) rfl rfl,⟨_,rfl,xS.mono (λk j _=>by have:=d1.out;show w.heap.size<=k;omega) _ _ (xS.far d2 (λk (j:c+8 < k) _ e=>by omega) _ _ n5)⟩,l6.far d2 (by omega) (by omega) (λk j _ e=>by have:=d0.out k j;omega),m3.step d2 (λk j e=>by have:=d1.out;omega)⟩
end
theorem wl(a:World):(Instr.typeAssert (.iface 311 (γ #[])) 308 310 true).run π a=.ok (.tuple #[γ #[],β false]) a:=by kernel_rfl
theorem qW(c d a9:Nat)(f:NS)(e:Tp.En)(al:List Tp.En)(t:Tp.Tree)(w:World)(i:yp w c d a9 f (e::al))(R:AX false e.l)(b0:c < w.heap.size)(a6:Nat)
(S:∀l,Far xO w l->Calls π 153 #[Z (W ⟨c,0,O⟩),V I e.col,V I 1] l λx w'=>(∃g:List Value,x=ρ (.tuple #[γ g.toArray,.nilIface])/\xS w' (New l) t g)/\yp w' c d a6 f []/\Far (λk=>k=c\/k=d) l w'):
 Calls π 107 #[Z (W ⟨c,0,O⟩),V I (-1),V I 1] w λx w'=>(∃g:List Value,x=ρ (.tuple #[γ g.toArray,.nilIface])/\xS w' (New w) t g)/\yp w' c d a6 f []/\Far (λk=>k=c\/k=d) w w':=by
 have E:Far xO w (w.alloc (J #[V I 0,U ⟨#[]⟩,V I 0,V I 0,U ⟨#[]⟩,Y O 0 0,Y O 0 0] 78)):=(ξ _ w).alloc _;have a4:=af w (J #[V I 0,U ⟨#[]⟩,V I 0,V I 0,U ⟨#[]⟩,Y O 0 0,Y O 0 0] 78);have ac:=i.far E (λe=>e) (λe=>e) (λ_ _ _ e=>e);obtain⟨v,C,ad⟩:=cM c d a9 f e al _ ac;obtain⟨M,N,bm,rfl⟩:∃a n P,v=Y a n P:=by obtain⟨a,_,_,P,i,_⟩:=C;exact⟨_,_,_,i⟩
 obtain⟨a0,bx⟩:=ji R;have ba:zc e.l=.iface 310 (γ #[]):=a0;have c3:=uz;have b0:=i.lt;obtain⟨av,p,bR,ct,be,bb⟩:=zx6 ad E a4 C ba S;have cl:=zD i.tgl;clear ad ac E a4 C a0 ba i S R
 go_enter func107,ntmps107
 go_wp2_with fail
 refine av.out.mono ?_;rintro x F ⟨rfl,s⟩;have u:Far xO (w.alloc (J #[V I 0,U ⟨#[]⟩,V I 0,V I 0,U ⟨#[]⟩,Y O 0 0,Y O 0 0] 78)) (F.alloc (J #[V I e.no,V I e.col,Y M N bm] 220)):=(Far.of_below s _).alloc _;have G:=af F (J #[V I e.no,V I e.col,Y M N bm] 220);have a1:=ct.out.far u (λ_ _ _ e=>e);have z:=cr e.no e.col _ e.l f _ a1 bx;rw[be.out]at z;have c0:w.heap.size < F.heap.size:=by have:=s.size;simp at this;omega
 obtain⟨ao,bk,D⟩:=zx3 z u G;clear s u G a1 z av be
 go_wp2_with fail
 refine ao.out.mono ?_;rintro x b1 ⟨rfl,y⟩;have ab:=bk.out.below y;have X:=(y.block _ (lt_of_heap D.out)).trans D.out;have j:=ab.alloc (J #[] 310);have H:=aa (J #[] 310) X;have T:=j.heap bR.out (λe=>e);have a5:=bb.out (b1.alloc (J #[] 310)) (p.out.trans j);obtain⟨ck,b2,bD,_⟩:=bv H;obtain⟨an,A⟩:=zx2 a5 T;have a2:=zD (p.out.trans j);have dc:=(p.out.trans j).size;clear y ab X j H T a5 ao bk D bb
 go_wp2_with fail
 refine an.out.mono ?_;rintro x w5 ⟨⟨g,rfl,q⟩,L,r⟩;obtain⟨k,ch,co,bn,b3,b6,b8,cm,cf,b9,bw,rfl⟩:=q.form;have b:=r.heap A.out (by omega);have a3:=(a2.out.mono (D':=λk=>k=c\/k=d) (λ_ _ e=>e.elim)).trans r;have c5:=zF b 0 rfl;have dn:=ag b 0;have da:=zF b 1 rfl;have c9:=ag b 1;have cv:=zF b 2 rfl;have dv:=ag b 2;have c6:=zF b 3 rfl;have c2:=ag b 3;have db:=zF b 4 rfl;have ds:=ag b 4;have df:=zF b 5 rfl;have dp:=ag b 5;have c4:=zF b 6 rfl;have dr:=ag b 6;obtain⟨b4,b5,ca,cc⟩:=zx4 b q L a3;have c1:=lt_of_heap A.out;have bs:∀k,f k->k < w5.heap.size->¬k=w.heap.size:=λk m _ e=>by have:=cl.out k m;omega
 clear b q L a3 r an A a2 ck b2 bD
 go_wp2_with fail
 obtain⟨cb,o⟩:=aG b4.out (V I k) (U ch) (V I co) (V I bn) (U b3) (Y b6 b8 cm) (Y cf b9 bw);exact bodyPost_ret (aO results107 _ _ _ _ cb rfl rfl) rfl ⟨⟨_,rfl,xS.mono (λk (m:_<=k) _=>by show w.heap.size<=k;omega) _ _ (xS.far o (λk (m:_<=k) _ e=>by omega) _ _ b5.out)⟩,ca.out.far o (by omega) (by omega) bs,cc.out.step o (λk m e=>by omega)⟩
theorem qV(c d a9:Nat)(f:NS)(e:Tp.En)(al:List Tp.En)(t:Tp.Tree)(w:World)(i:yp w c d a9 f (e::al))(R:AX true e.l)(b0:c < w.heap.size)(a6:Nat)
(S:∀l,Far xO w l->Calls π 155 #[Z (W ⟨c,0,O⟩),V I e.col,V I 1] l λx w'=>(∃g:List Value,x=ρ (.tuple #[γ g.toArray,.nilIface])/\xS w' (New l) t g)/\yp w' c d a6 f []/\Far (λk=>k=c\/k=d) l w'):
 Calls π 107 #[Z (W ⟨c,0,O⟩),V I (-1),V I 1] w λx w'=>(∃g:List Value,x=ρ (.tuple #[γ g.toArray,.nilIface])/\xS w' (New w) t g)/\yp w' c d a6 f []/\Far (λk=>k=c\/k=d) w w':=by
 have E:Far xO w (w.alloc (J #[V I 0,U ⟨#[]⟩,V I 0,V I 0,U ⟨#[]⟩,Y O 0 0,Y O 0 0] 78)):=(ξ _ w).alloc _;have a4:=af w (J #[V I 0,U ⟨#[]⟩,V I 0,V I 0,U ⟨#[]⟩,Y O 0 0,Y O 0 0] 78);have ac:=i.far E (λe=>e) (λe=>e) (λ_ _ _ e=>e);obtain⟨v,C,ad⟩:=cM c d a9 f e al _ ac;obtain⟨M,N,bm,rfl⟩:∃a n P,v=Y a n P:=by obtain⟨a,_,_,P,i,_⟩:=C;exact⟨_,_,_,i⟩
 obtain⟨a0,bx⟩:=ji R;have ba:zc e.l=.iface 311 (γ #[]):=a0;have c3:=wl;have db:=uy;have b0:=i.lt;obtain⟨av,p,bR,ct,be,bb⟩:=zx6 ad E a4 C ba S;have cl:=zD i.tgl;clear ad ac E a4 C a0 ba i S R
 go_enter func107,ntmps107
 go_wp2_with fail
 refine av.out.mono ?_;rintro x F ⟨rfl,s⟩;have u:Far xO (w.alloc (J #[V I 0,U ⟨#[]⟩,V I 0,V I 0,U ⟨#[]⟩,Y O 0 0,Y O 0 0] 78)) (F.alloc (J #[V I e.no,V I e.col,Y M N bm] 220)):=(Far.of_below s _).alloc _;have G:=af F (J #[V I e.no,V I e.col,Y M N bm] 220);have a1:=ct.out.far u (λ_ _ _ e=>e);have z:=cr e.no e.col _ e.l f _ a1 bx;rw[be.out]at z;have c0:w.heap.size < F.heap.size:=by have:=s.size;simp at this;omega
 obtain⟨ao,bk,D⟩:=zx3 z u G;clear s u G a1 z av be
 go_wp2_with fail
 refine ao.out.mono ?_;rintro x b1 ⟨rfl,y⟩;have ab:=bk.out.below y;have X:=(y.block _ (lt_of_heap D.out)).trans D.out;have j:=ab.alloc (J #[] 311);have H:=aa (J #[] 311) X;have T:=j.heap bR.out (λe=>e);have a5:=bb.out (b1.alloc (J #[] 311)) (p.out.trans j);obtain⟨ck,b2,bD,_⟩:=bv H;obtain⟨an,A⟩:=zx2 a5 T;have a2:=zD (p.out.trans j);have df:=(p.out.trans j).size;clear y ab X j H T a5 ao bk D bb
 go_wp2_with fail
 refine an.out.mono ?_;rintro x w5 ⟨⟨g,rfl,q⟩,L,r⟩;obtain⟨k,ch,co,bn,b3,b6,b8,cm,cf,b9,bw,rfl⟩:=q.form;have b:=r.heap A.out (by omega);have a3:=(a2.out.mono (D':=λk=>k=c\/k=d) (λ_ _ e=>e.elim)).trans r;have c5:=zF b 0 rfl;have dp:=ag b 0;have da:=zF b 1 rfl;have c9:=ag b 1;have cv:=zF b 2 rfl;have d0:=ag b 2;have c6:=zF b 3 rfl;have c2:=ag b 3;have dc:=zF b 4 rfl;have dv:=ag b 4;have dn:=zF b 5 rfl;have dr:=ag b 5;have c4:=zF b 6 rfl;have ds:=ag b 6;obtain⟨b4,b5,ca,cc⟩:=zx4 b q L a3;have c1:=lt_of_heap A.out;have bs:∀k,f k->k < w5.heap.size->¬k=w.heap.size:=λk m _ e=>by have:=cl.out k m;omega
 clear b q L a3 r an A a2 ck b2 bD
 go_wp2_with fail
 obtain⟨cb,o⟩:=aG b4.out (V I k) (U ch) (V I co) (V I bn) (U b3) (Y b6 b8 cm) (Y cf b9 bw);exact bodyPost_ret (aO results107 _ _ _ _ cb rfl rfl) rfl ⟨⟨_,rfl,xS.mono (λk (m:_<=k) _=>by show w.heap.size<=k;omega) _ _ (xS.far o (λk (m:_<=k) _ e=>by omega) _ _ b5.out)⟩,ca.out.far o (by omega) (by omega) bs,cc.out.step o (λk m e=>by omega)⟩
section
attribute [local go_sem] ak
theorem tK(b f i:Nat)(g:NS)(e:Tp.En)(c:List Tp.En)(t:Tp.Tree)(w:World)(d:yp w b f i g (e::c))(q:∀x∈e::c,(∀t∈x.l,zf t)/\x.l.length<=100000)(v:Glob w)(u:10<=b)(C:10<=f)(A:(e::c).length<=100000)(a:Tp.bread (e::c)=W t):
 Calls π 107 #[Z (W ⟨b,0,O⟩),V I (-1),V I 1] w λx w'=>(∃z:List Value,x=ρ (.tuple #[γ z.toArray,.nilIface])/\xS w' (New w) t z)/\(∃F,yp w' b f F g [])/\Far (λk=>k=b\/k=f) w w':=by
 unfold Tp.bread at a;by_cases r:Tp.isDash e.l=true
 ·simp only[r,if_true]at a
  obtain⟨G,y,rfl⟩:=zN.1 a;refine(qW b f i g e c _ w d ⟨by rw[r];rfl,λd=>by cases d⟩ d.lt.1 _ (λs n=>uX b f i 1 rfl g (e::c) G e.col s (d.far n (λe=>e) (λe=>e) (λ_ _ _ e=>e)) q (v.far n (λ_ _ e=>e)) u C y A)).mono ?_;rintro x w' ⟨m,l,o⟩;exact⟨m,⟨_,l⟩,o⟩
 ·simp only[r,if_false,Bool.false_eq_true]at a
  by_cases p:Tp.isKey e.l=true
  ·simp only[p,if_true]at a
   obtain⟨⟨D,E⟩,y,rfl⟩:=zN.1 a;refine(qV b f i g e c _ w d ⟨ip p,λ_=>p⟩ d.lt.1 _ (λs n=>uj b f i 1 rfl g (e::c) D E e.col s (d.far n (λe=>e) (λe=>e) (λ_ _ _ e=>e)) q (v.far n (λ_ _ e=>e)) u C y A)).mono ?_;rintro x w' ⟨m,l,o⟩;exact⟨m,⟨_,l⟩,o⟩
  ·simp only[p,if_false,Bool.false_eq_true]at a
   by_cases j:(Tp.isPl e.l&&c.isEmpty)=true
   ·simp only[j,if_true]at a
    rw[zQ,List.isEmpty_iff]at j;obtain⟨j,rfl⟩:=j;refine(ko b f i g e [] (-1) 1 t w d j (q e (by simp)).1 (q e (by simp)).2 v u (by omega) a).mono ?_;rintro x w' ⟨m,l,o⟩;exact⟨m,⟨_,l⟩,o.mono (λ_ _ e=>.inl e)⟩
   ·simp only[j,if_false,Bool.false_eq_true]at a
    cases a
theorem lI(b d T:Nat)(C:NS)(e:Tp.En)(f:List Tp.En)(t:Tp.Tree)(w:World)(c:yp w b d T C (e::f))(bb:∀x∈e::f,(∀t∈x.l,zf t)/\x.l.length<=100000)(a1:Glob w)(c2:10<=b)(cm:10<=d)(bn:(e::f).length<=100000)(ad:Tp.bread (e::f)=some t):
 Calls π 74 #[Z (some ⟨b,0,O⟩)] w λx w'=>(∃G:List Value,x=ρ (.tuple #[γ G.toArray,.nilIface])/\xS w' (New w) t G)/\Far (λk=>k=b\/k=d) w w':=by
 obtain⟨q,F⟩:∃q,w.heap.size=q:=⟨_,rfl⟩;have ab:Far xO w (w.alloc (J #[V I 0,U ⟨#[]⟩,V I 0,V I 0,U ⟨#[]⟩,Y O 0 0,Y O 0 0] 78)):=(ξ _ w).alloc _;have b2:(w.alloc (J #[V I 0,U ⟨#[]⟩,V I 0,V I 0,U ⟨#[]⟩,Y O 0 0,Y O 0 0] 78)).heap[q]? =some (J #[V I 0,U ⟨#[]⟩,V I 0,V I 0,U ⟨#[]⟩,Y O 0 0,Y O 0 0] 78 (0,0)):=by rw[<-F];exact af w _
 have R:(w.alloc (J #[V I 0,U ⟨#[]⟩,V I 0,V I 0,U ⟨#[]⟩,Y O 0 0,Y O 0 0] 78)).heap.size=q+1:=by rw[<-F];exact Array.size_push ..
 have a3:=c.far ab (λe=>e) (λe=>e) (λ_ _ _ e=>e);obtain⟨v,bR,a9⟩:=cM b d T C e f _ a3;obtain⟨M,N,X,rfl⟩:∃a n a2,v=Y a n a2:=by obtain⟨a,_,_,a2,c,_⟩:=bR;exact⟨_,_,_,c⟩
 have ch:=c.lt;have S:=c.tgl;rw[F]at ch S;have b6:=λW (a5:Far xO w W)=>tK b d T C e f t W (c.far a5 (λe=>e) (λe=>e) (λ_ _ _ e=>e)) bb (a1.far a5 (λ_ _ e=>e)) c2 cm bn ad;obtain⟨bm,cf,cc,a0,an,d5⟩:=zx6 a9 ab b2 b6 F S;have cb:=zD R;clear a9 ab b2 b6 a3 bR c bb a1 ad S bn R
 go_enter func74,ntmps74
 go_wp2_with fail
 refine bm.out.mono ?_;rintro x ac ⟨rfl,ba⟩;have E:Far xO (w.alloc (J #[V I 0,U ⟨#[]⟩,V I 0,V I 0,U ⟨#[]⟩,Y O 0 0,Y O 0 0] 78)) (ac.alloc (J #[V I e.no,V I e.col,Y M N X] 220)):=(Far.of_below ba _).alloc _;have H:=cf.out.trans E;have be:=E.heap cc.out id;have da:=E.size;have bx:=a0.out _ H;obtain⟨ao,al,b5⟩:=zx3 bx H be;clear ba E H be bx bm a0
 go_wp2_with fail
 refine ao.out.mono ?_;rintro x w5 ⟨⟨G,rfl,P⟩,⟨c1,av⟩,D⟩;obtain⟨p,l,z,A,y,u,j,r,i,o,g,rfl⟩:=P.form;obtain⟨ct,c3⟩:∃q,w5.heap.size=q:=⟨_,rfl⟩;have s:Far xO w5 (w5.alloc (J #[V I p,U l,V I z,V I A,U y,Y u j r,Y i o g] 78)):=(ξ _ w5).alloc _;have bw:(w5.alloc (J #[V I p,U l,V I z,V I A,U y,Y u j r,Y i o g] 78)).heap[ct]? =some (J #[V I p,U l,V I z,V I A,U y,Y u j r,Y i o g] 78 (0,0)):=by rw[<-c3];exact af w5 _
 have dp:=D.size;have b4:=je b d c1 C _ (av.far s (λe=>e) (λe=>e) (λ_ _ _ e=>e));have b1:=(al.out.mono (D':=λk=>k=b\/k=d) (λ_ _ e=>e.elim)).trans (D.step s (λ_ _ e=>e.elim));obtain⟨bs,bD,bk⟩:=zx3 b4 b1 bw;have a6:=zD (s.heap (D.heap b5.out (by omega)) id);have b9:=zD (xS.far s (λ_ _ _ e=>e) _ _ P);have R:=cb.out;have d6:q+1<=(ac.alloc (J #[V I e.no,V I e.col,Y M N X] 220)).heap.size:=by omega
 clear P av D s bw b4 b1 ao al b5;generalize (ac.alloc (J #[V I e.no,V I e.col,Y M N X] 220))=c0 at *
 go_wp2_with fail
 refine bs.out.mono ?_;rintro x ca ⟨rfl,b8⟩;have m:Far xO (w5.alloc (J #[V I p,U l,V I z,V I A,U y,Y u j r,Y i o g] 78)) (ca.alloc (J #[V I 0,V I 0,Y O 0 0] 220)):=(Far.of_below b8 _).alloc _;have b0:=m.heap bk.out id;have L:=m.heap a6.out id;obtain⟨dc,d4,db,d1,dn,dv,eq,_⟩:=bd b0;obtain⟨c9,ds,c4,df,d0,d2,c6,d3,dr,er,c5,en,eg,ei⟩:=bd L;have co:=zD (bD.out.step m (λ_ _ e=>e.elim));have cl:=zD L;have ck:=zD (xS.far m (λ_ _ _ e=>e) _ _ b9.out);clear b8 m b0 L bs bD bk a6 b9
 go_wp2_with fail
 obtain⟨cv,b3⟩:=aG cl.out (V I p) (U l) (V I z) (V I A) (U y) (Y u j r) (Y i o g);exact bodyPost_ret (aO results74 _ _ _ _ cv rfl rfl) rfl ⟨⟨_,rfl,xS.mono (λk (a4:_<=k) _=>by have:=an.out;show w.heap.size<=k;omega) _ _ (xS.far b3 (λk (a4:c0.heap.size<=k) _ e=>by omega) _ _ ck.out)⟩,co.out.step b3 (λk a4 e=>by have:=an.out;omega)⟩
end
theorem vE:(prog.info? 220).map (λi=>(i.zero,i.size,i.bytes))=W (W (γ #[V I 0,V I 0,Y O 0 0]),3,40):=by kernel_rfl
theorem x9.mono{b G':NS}{w:World}(f:∀k,b k->k < w.heap.size->G' k):∀(d:List Tp.En) (a:List Value),x9 w b d a->x9 w G' d a
 | [],a,h=>by unfold x9 at h ⊢;exact h
 |e::r,a,h=>by
  unfold x9 at h ⊢;obtain⟨v,c,i,g,j⟩:=h;exact⟨v,c,i.mono f,g,x9.mono f r c j⟩
theorem x9.snoc{w:World}{c:NS}{e:Tp.En}{v:Value}(d:Row w c e.l.length v (xZ e.l)):∀(f:List Tp.En) (b:List Value),x9 w c f b->x9 w c (f++[e]) (b++[V I e.no,V I e.col,v])
 | [],b,hk=>by
  unfold x9 at hk;subst hk;rw[List.nil_append,List.nil_append];unfold x9;exact⟨v,[],d,rfl,by unfold x9;rfl⟩
 |y::r,b,hk=>by
  unfold x9 at hk;obtain⟨a,g,j,rfl,i⟩:=hk;rw[List.cons_append];unfold x9;exact⟨a,_,j,rfl,x9.snoc d r g i⟩
theorem eH:∀(a:List Ln.Line) (i:Nat) (x:Ln.Line),a[i]? =W x->(ye a)[i * 3]? =W (V I x.no)/\(ye a)[i * 3+1]? =W (V I x.ind)/\(ye a)[i * 3+2]? =W (xR x.s)
 | [],i,x,h=>by simp at h
 |y::r,0,x,h=>by
  simp at h
  subst h;exact⟨rfl,rfl,rfl⟩
 |y::r,i+1,x,h=>by
  obtain⟨c,b,d⟩:=eH r i x (by simpa using h);have e:ye (y::r)=V I y.no::V I y.ind::U ⟨y.s.toArray⟩::ye r:=rfl;rw[e,show (i+1) * 3=i * 3+3 by omega,show i * 3+3+1=(i * 3+1)+3 by omega,show i * 3+3+2=(i * 3+2)+3 by omega];exact⟨c,b,d⟩
theorem Row.ln{f:NS}{w:World}{n i:Nat}{v:Value}{a:List Ln.Line}{x:Ln.Line}(r:Row w f n v (ye a))(p:a[i]? =W x):∃g o cap,v=Y (W ⟨g,o,O⟩) n cap/\f g/\g < w.heap.size/\w.cell? ⟨g,o+i * 3,O⟩=W (V I x.no)/\w.cell? ⟨g,o+i * 3+1,O⟩=W (V I x.ind)/\w.cell? ⟨g,o+i * 3+2,O⟩=W (xR x.s):=by
 obtain⟨u,g,o,cap,k,t,m,j⟩:=r;obtain⟨c,s,l⟩:=eH a i x p;have d:ye a≠[]:=λe=>by rw[e]at c;simp at c
 obtain⟨rfl,q,b⟩:=j d;exact⟨g,o,cap,k,m d,q,b _ _ c,b _ _ s,b _ _ l⟩
theorem jq:∀(d:List Ln.Line) (a:List Tp.En),Tp.ents d=W a->a.length=d.length
 | [],a,h=>by cases h;rfl
 |x::r,a,h=>by
  unfold Tp.ents at h;cases b:Tp.toks 9000 0 true 0 x.s with
  |none=>simp[b]at h
  |some t=>
   cases c:Tp.ents r with
   |none=>simp[b,c]at h
   |some es'=>
    simp only[b,c]at h;split at h
    ·cases h
    ·cases h;simp[jq r es' c]
theorem rS:∀(f:List Ln.Line) (b:List Tp.En) (i:Nat) (x:Ln.Line),Tp.ents f=W b->f[i]? =W x->∃a,Tp.toks 9000 0 true 0 x.s=W a/\a≠[]/\b[i]? =W ⟨x.no,x.ind,a⟩
 | [],b,i,x,h,hx=>by simp at hx
 |y::r,b,i,x,h,hx=>by
  unfold Tp.ents at h;cases c:Tp.toks 9000 0 true 0 y.s with
  |none=>simp[c]at h
  |some t=>
   cases d:Tp.ents r with
   |none=>simp[c,d]at h
   |some es'=>
    simp only[c,d]at h;split at h
    ·cases h
    ·rename_i hne
     cases h
     match i with
     |0=>
      simp at hx
      subst hx;exact⟨t,c,λe=>hne (by rw[e];rfl),rfl⟩
     |i+1=>
      obtain⟨a,j,g,k⟩:=rS r es' i x d (by simpa using hx);exact⟨a,j,g,by simpa using k⟩
theorem tF(g:List Ln.Line)(m:List Tp.En)(v:Value)(b5:NS)(w:World)(ad:Row w b5 g.length v (ye g))(e3:∀k,b5 k->k < w.heap.size)(e8:g.length<=10000)(dr:∀x∈g,0<=x.ind/\x.ind<=8000)(ca:∀x∈g,x.s.length<=100000/\Ln.right x.s=true/\Ln.plainB x.s=true)(bn:Tp.ents g=W m)(c2:∀x∈m,x.l.length<=100000)(a0:Glob w):
 Calls π 73 #[v] w λe w'=>(∃bk n c,e=ρ (.tuple #[bk,.nilIface])/\w'.ownsRow w.heap.size 220 3 bk m.length n/\x9 w' c m n/\(∀k,c k->w.heap.size<=k/\k < w'.heap.size/\bk.ownBlock≠W k))/\Below w.heap.size w w':=by
 obtain⟨e0,e9,eg,fs,e7⟩:=info_parts vE;obtain⟨fR,f4,rfl,_⟩:=ad.form;have bm:=jq g m bn;have da:=λi x=>rS g m i x bn;obtain⟨u,bR⟩:∃u,g.length=u:=⟨_,rfl⟩;rw[bR]at ad e8 bm ⊢;obtain⟨a,M⟩:∃a,w.heap.size=a:=⟨_,rfl⟩;have eq:10<=a:=by rw[<-M];exact a0.1
 rw[M];obtain⟨dn,e6,ex,ei⟩:=zx4 ad dr ca da;have S:=zD (θ bm bR);obtain⟨fn,e4,L⟩:=zx3 c2 a0 M;clear ad dr ca da bn c2 a0 bm bR e3 M
 go_enter func73,ntmps73
 go_wp2_with fail
 go_loopw [14] (λbb wr=>∃t:Nat,bb=V I (t:Int)/\t<=u/\Below a w wr) (λbb _=>u - (Lib.intOf bb).toNat)
 case atStart=>exact⟨0,rfl,z_ _,by rw[<-L.out];exact ζ _ _⟩
 case round=>
  obtain⟨t,rfl,f7,A⟩:=hrel;by_cases b3:t < u
  ·obtain⟨x,q⟩:∃x,g[t]? =W x:=⟨_,zE (by rw[S.out.2];exact b3)⟩
   obtain⟨a3,d3⟩:=e6.out x (zL q);obtain⟨fv,es,e5,a1,er,d5,dc,c6,N⟩:=(dn.out.below (by rw[L.out];exact A)).ln q;injection a1 with e11 e12 e13;clear e12;subst e11 e13;obtain⟨SX,z⟩:∃a4,xR x.s=U a4:=⟨_,rfl⟩;rw[z]at N;have a3:¬x.ind < 0:=by omega
   have d3:¬8000 < x.ind:=by omega
   have f5:(t:Int) < (u:Int):=by omega
   have f3:(0:Int)<=(t:Int):=by omega
   have an:=zD (A.alloc (Nat.le_trans (by rw[<-L.out];exact η _) A.size) (J #[V I x.no,V I x.ind,U SX] 140));clear A z q
   go_wp2_with fail
   go_roundw
   case rel=>exact⟨t+1,by go_num,b3,an.out⟩
   case measure=>simp[Lib.intOf];omega
  ·obtain rfl:t=u:=by omega
   have a3:¬(t:Int) < (t:Int):=by omega
   have an:=zD A;clear A
   go_wp2_with fail
   go_loopw [6,31] (λd6 ba wr=>∃(i:Nat) (f:Option Addr) (o p:Nat) (n:List Value) (c:NS),d6=Y f o p/\ba=V I (i:Int)/\i<=t/\wr.ownsRow a 220 3 (Y f o p) i n/\x9 wr c (m.take i) n/\(∀k,c k->a<=k/\k < wr.heap.size/\(Value.slice f o p).ownBlock≠W k)/\Below a w wr) (λ_ ba _=>t - (Lib.intOf ba).toNat)
   case atStart=>exact⟨0,O,0,0,[],λ_=>False,rfl,rfl,z_ _,World.ownsRow_nil _ _ _ _,by unfold x9;rfl,λ_ d=>d.elim,an.out⟩
   case round=>
    obtain⟨i,f,o,p,n,c,rfl,rfl,f6,ab,H,T,s⟩:=hrel;by_cases dv:i < t
    ·obtain⟨x,q⟩:∃x,g[i]? =W x:=⟨_,zE (by rw[S.out.2];exact dv)⟩
     obtain⟨cm,b2,b0⟩:=ex.out x (zL q);obtain⟨a2,c1,b1,be⟩:=ei.out i x q;have db:=fn.out _ (zL be);obtain⟨fv,es,e5,a1,er,d5,dc,c6,N⟩:=(dn.out.below (by rw[L.out];exact s)).ln q;injection a1 with e11 e12 e13;clear e12;subst e11 e13;have ao:a<=wr.heap.size:=Nat.le_trans (by rw[<-L.out];exact η _) s.size;have b6:Glob (wr.alloc (J #[V I x.no,V I x.ind,xR x.s] 140)):=e4.out.keep (s.alloc ao _) eq;have P:=lM ⟨x.s.toArray⟩ cm b2 b0 9000 a2 c1 db _ b6;have bD:=s.alloc ao (J #[V I x.no,V I x.ind,xR x.s] 140);have X:=af wr (J #[V I x.no,V I x.ind,xR x.s] 140);have ac:(wr.alloc (J #[V I x.no,V I x.ind,xR x.s] 140)).heap.size=wr.heap.size+1:=by simp
     obtain⟨SX,z⟩:∃a4,xR x.s=U a4:=⟨_,rfl⟩;have c0:(⟨x.s.toArray⟩:ByteArray)=SX:=by injection z
     rw[c0]at P;rw[z]at N P bD X ac;obtain⟨fz,ft,d1,_⟩:=bv X;obtain⟨r,bs⟩:∃e2,a2.length=e2:=⟨_,rfl⟩;have f2:¬r=0:=by rw[<-bs];exact λe=>b1 (List.length_eq_zero_iff.1 e)
     have gc:((r:Int)==0)=false:=by simp;omega
     have gb:(i:Int) < (t:Int):=by omega
     have f1:(0:Int)<=(i:Int):=by omega
     have c9:m.take (i+1)=m.take i++[⟨x.no,x.ind,a2⟩]:=by rw[zG,be];rfl
     obtain⟨a9,cc,fl,ct,av,dp⟩:=zx6 ab H T bD X P;obtain⟨d2,c5⟩:=zx2 c9 bs;clear ab H T s bD X P c9 z c0 q cm b2 b0 c1 b1 be db b6;clear bs
     go_wp2_with fail
     refine dp.out.mono ?_;rintro e b ⟨⟨v,rfl,c3⟩,G⟩;have R:=az c3;rw[c5.out]at R;obtain⟨y,D,rfl,_⟩:=R.form;have cb:Far xO wr b:=((ξ _ wr).alloc _).below G;have ch:=(G.block _ (lt_of_heap av.out)).trans av.out;obtain⟨f0,f8,fG,_⟩:=bv ch;have cf:=ct.out.trans (G.mono (by rw[ac];omega));have e1:=G.size;rw[ac]at e1;have a5:Far xO b (b.alloc (J #[V I x.no,V I x.ind,Y y r D] 220)):=(ξ _ b).alloc _;have a6:=cb.trans a5;have b8:=zD (am a9.out a6 (λ_ _ e=>e));have ds:=zD (x9.far a6 (λ_ _ _ e=>e) _ _ cc.out);have cl:=zD ((R.mono (G':=λk=>wr.heap.size<=k/\k < b.heap.size) (λk (fr:_<=k) h2=>⟨by rw[ac]at fr;omega,h2⟩)).far a5 (λ_ _ _ e=>e));have ck:=zD (cf.alloc (by omega) (J #[V I x.no,V I x.ind,Y y r D] 220));have b9:=λk e=>(a9.out.lt k e);have b4:=zD b9;clear b9 G c3 R ch cf cb a5 a6 a9 cc dp ct av fz ft d1 dc c6 N
     go_wp2_with (at_builtin;refine wpList_append_lies _ rfl (.tmp 56) (.tmp 63) 145 rfl a 220 e0 _ 3 40 underlying145 e9 eg fs e7 rfl (by decide) (Y f o p) i _ rfl b8.out ⟨b.heap.size,0,O⟩ 1 1 [V I x.no,V I x.ind,Y y r D] rfl rfl (λj ga d4=>by rw[gK];exact(ae (af b _) j).trans (by simpa using d4)) (by simp[Value.oneCell']) (by omega) (by unfold maxLen;omega) (by omega) (by simp;omega) _ rfl ?_;intro gg cap w5 co d0 cv f9)
     have F:Far (λk=>(Value.slice f o p).ownBlock=W k) (b.alloc (J #[V I x.no,V I x.ind,Y y r D] 220)) w5:=(ξ _ _).grown d0 (λk e _=>e);have bw:(b.alloc (J #[V I x.no,V I x.ind,Y y r D] 220)).heap.size=b.heap.size+1:=by simp
     rw[bw]at cv;have en:=F.size;rw[bw]at en;have E:∀k,(c k\/(wr.heap.size<=k/\k < b.heap.size))->a<=k/\k < b.heap.size/\¬(Value.slice f o p).ownBlock=W k:=λk l=>by
      rcases l with d|d
      ·have:=fl.out k d
       exact⟨this.1,by omega,this.2.2⟩
      ·exact⟨by omega,d.2,λe=>by have:=(b4.out k e).2;omega⟩
     have c4:x9 w5 (λk=>c k\/(wr.heap.size<=k/\k < b.heap.size)) (m.take (i+1)) (n++[V I x.no,V I x.ind,Y y r D]):=by
      rw[d2.out];refine x9.snoc ?_ _ _ (x9.mono (λ_ d _=>.inl d) _ _ (x9.far F (λk l _ e=>(E k (.inl l)).2.2 e) _ _ ds.out));rw[c5.out];exact(cl.out.far F (λk l _ e=>(E k (.inr l)).2.2 e)).mono (λ_ d _=>.inr d)
     have df:=ck.out.trans (F.to_below (Nat.le_trans ao (by rw[bw];omega)) (λk l e=>by have:=(b4.out k e).1;omega));have C:=zD (show ∃(al:Nat) (f:Option Addr) (o p:Nat) (n:List Value) (c:NS),Value.slice (W ⟨gg,0,O⟩) (i+1) cap=Y f o p/\Value.int I ((i:Int)+1)=V I (al:Int)/\al<=t/\w5.ownsRow a 220 3 (Y f o p) al n/\x9 w5 c (m.take al) n/\(∀k,c k->a<=k/\k < w5.heap.size/\(Value.slice f o p).ownBlock≠W k)/\Below a w w5 from ⟨i+1,_,_,_,_,_,rfl,by go_num,dv,co,c4,λk l=>⟨(E k l).1,by have:=(E k l).2.1;omega,λe=>by
      simp only[Value.ownBlock,Option.map_some,Option.some.injEq]at e;rcases cv with d|d
      ·exact(E k l).2.2 (d.trans (congrArg W e))
      ·have:=(E k l).2.1;omega⟩,df⟩)
     clear F c4 df co d0 b8 ds cl ck
     go_roundw
     case rel=>exact C.out
     case measure=>simp[Lib.intOf];omega
    ·obtain rfl:i=t:=by omega
     have a3:¬(i:Int) < (i:Int):=by omega
     rw[zR (by rw[S.out.1];exact η _)]at H;have bx:=ab;rw[<-S.out.1]at bx;have C:=zD (θ bx (θ H (θ T s)));clear bx ab H T s an
     go_wp2_with fail
     go_ret2
     exact⟨⟨_,rfl,n,C.out.1,c,C.out.2.1,C.out.2.2.1⟩,C.out.2.2.2⟩
section
attribute [local go_sem] ak
theorem uu(f:List Ln.Line)(l:List Tp.En)(t:Tp.Tree)(v:Value)(av:NS)(w:World)(b0:Row w av f.length v (ye f))(c1:∀k,av k->k < w.heap.size)(be:f.length<=10000)(ds:∀x∈f,0<=x.ind/\x.ind<=8000)(ct:∀x∈f,x.s.length<=100000/\Ln.right x.s=true/\Ln.plainB x.s=true)(bs:Tp.ents f=W l)(ab:∀x∈l,(∀t∈x.l,zf t)/\x.l.length<=100000)(M:Tp.bread l=W t)(C:Glob w):
 Calls π 54 #[v] w λe w'=>(∃N:List Value,e=ρ (.tuple #[γ N.toArray,V I 0,V I 0])/\xS w' (New w) t N)/\Below w.heap.size w w':=by
 obtain⟨f2,f9,rfl,_⟩:=b0.form;obtain⟨q,bx⟩:∃q,w.heap.size=q:=⟨_,rfl⟩;have gc:10<=q:=by rw[<-bx];exact C.1
 have p:Far xO w (w.alloc (J #[V I 0,U ⟨#[]⟩,V I 0,V I 0,U ⟨#[]⟩,Y O 0 0,Y O 0 0] 78)):=(ξ _ w).alloc _;have b2:(w.alloc (J #[V I 0,U ⟨#[]⟩,V I 0,V I 0,U ⟨#[]⟩,Y O 0 0,Y O 0 0] 78)).heap[q]? =W (J #[V I 0,U ⟨#[]⟩,V I 0,V I 0,U ⟨#[]⟩,Y O 0 0,Y O 0 0] 78 (0,0)):=by rw[<-bx];exact af w _
 have b8:(w.alloc (J #[V I 0,U ⟨#[]⟩,V I 0,V I 0,U ⟨#[]⟩,Y O 0 0,Y O 0 0] 78)).heap.size=q+1:=by simp[bx]
 have F:=jq f l bs;have bm:=tF f l _ av _ (b0.far p (λ_ _ _ e=>e)) (λk g=>zK (c1 k g) p.size) be ds ct bs (λx X=>(ab x X).2) (C.far p (λ_ _ e=>e));obtain⟨a6,d1⟩:∃a6,f.length=a6:=⟨_,rfl⟩;rw[d1]at bm F be ⊢;obtain⟨ac,A,rfl⟩:∃e m,l=e::m:=by
  cases l with
  |nil=>simp[Tp.bread]at M
  |cons e m=>exact⟨_,_,rfl⟩
 obtain⟨c,a4⟩:∃c,A.length=c:=⟨_,rfl⟩;have e8:c+1=a6:=by rw[<-a4];simpa using F
 subst e8;have cm:=λs m a oe r (e0:yp s m a oe r (ac::A)) (ei:Glob s) (fG:10<=m) (e6:10<=a)=>lI m a oe r ac A t s e0 ab ei fG e6 (by rw[F];exact Nat.le_trans be (by omega)) M;obtain⟨b9,ca,cl,cf,e7,L⟩:=zx6 bm cm p b2 C a4;clear bm cm p b2 C b0 c1 ds ct bs ab M d1 F a4
 go_enter func54,ntmps54
 go_wp2_with fail
 refine b9.out.mono ?_;rintro e d ⟨⟨m,fl,r,rfl,n,dn,y⟩,D⟩;simp only[zO,L.out]at n;obtain⟨a,j,rfl,ft,eq⟩:=aA n;rw[b8]at ft y;obtain⟨b,E⟩:∃q,d.heap.size=q:=⟨_,rfl⟩;have z:Far xO d ((d.alloc (J #[V I 0,U ⟨#[]⟩,V I 0,V I 0,U ⟨#[]⟩,Y O 0 0,Y O 0 0] 78)).alloc (J #[Y (W ⟨a,0,O⟩) (c+1) j] 153)):=((ξ _ d).alloc _).alloc _;have bb:((d.alloc (J #[V I 0,U ⟨#[]⟩,V I 0,V I 0,U ⟨#[]⟩,Y O 0 0,Y O 0 0] 78)).alloc (J #[Y (W ⟨a,0,O⟩) (c+1) j] 153)).heap[b]? =W (J #[V I 0,U ⟨#[]⟩,V I 0,V I 0,U ⟨#[]⟩,Y O 0 0,Y O 0 0] 78 (0,0)):=by rw[<-E];exact aa _ (af d _)
 have d0:((d.alloc (J #[V I 0,U ⟨#[]⟩,V I 0,V I 0,U ⟨#[]⟩,Y O 0 0,Y O 0 0] 78)).alloc (J #[Y (W ⟨a,0,O⟩) (c+1) j] 153)).heap[b+1]? =W (J #[Y (W ⟨a,0,O⟩) (c+1) j] 153 (0,0)):=ah _ _ _ (by simp[E]);have d3:((d.alloc (J #[V I 0,U ⟨#[]⟩,V I 0,V I 0,U ⟨#[]⟩,Y O 0 0,Y O 0 0] 78)).alloc (J #[Y (W ⟨a,0,O⟩) (c+1) j] 153)).heap.size=b+2:=by simp[E]
 have co:=D.size;rw[b8]at co;rw[E]at eq co;have R:=(cl.out.below D).trans z;have ck:=z.heap ((Far.of_below D xO).heap cf.out id) id;have da:=bK n;have b3:=ja n;have b4:yp ((d.alloc (J #[V I 0,U ⟨#[]⟩,V I 0,V I 0,U ⟨#[]⟩,Y O 0 0,Y O 0 0] 78)).alloc (J #[Y (W ⟨a,0,O⟩) (c+1) j] 153)) (b+1) a 0 r (ac::A):=by
  obtain⟨d6,dr⟩:=aU n;obtain⟨f8,T,o,fz⟩:=da;rw[dr]at o;injection o with o;injection o with o _ _;subst o;refine⟨⟨153,W ⟨a,0,O⟩,j,?_,?_,b3.2,λ_=>rfl⟩,⟨fl,d6,z.heap dr id,x9.far z (λ_ _ _ e=>e) _ _ dn,λi x X=>by rw[Nat.zero_add];exact fz i x X⟩,by omega,λh=>?_,λh=>(y _ h).2.2 rfl,λk g=>by rw[d3];have:=(y k g).2.1;omega⟩
  ·simp only[zO,L.out];exact d0
  ·simp only[zO,L.out];exact b3.1
  ·have:=(y _ h).2.1;omega
 have ch:=ca.out _ (b+1) a 0 r b4 (e7.out.far R (λ_ _ e=>e)) (by omega) (by omega);obtain⟨dp,b6,c2,dv⟩:=zx4 ch R ck bb;have f1:=lt_of_heap bb;clear D ch b4 R ck bb d0 da n dn y b9 ca cl cf z
 go_wp2_with fail
 generalize ((d.alloc (J #[V I 0,U ⟨#[]⟩,V I 0,V I 0,U ⟨#[]⟩,Y O 0 0,Y O 0 0] 78)).alloc (J #[Y (W ⟨a,0,O⟩) (c+1) j] 153))=f4 at *;refine dp.out.mono ?_;rintro e e5 ⟨⟨N,rfl,a0⟩,u⟩;obtain⟨ba,al,bR,b1,bD,bw,ad,bk,S,an,P,rfl⟩:=a0.form;have gk:=u.size;have cc:=u.heap c2.out (by omega);have H:=u.heap dv.out (by omega);have b5:=(b6.out.mono (D':=λk=>k=b+1\/k=a) (λ_ _ e=>e.elim)).trans u;obtain⟨dc,c6,cb⟩:=zx3 a0 cc b5;obtain⟨ao,a1⟩:=aG H (V I ba) (U al) (V I bR) (V I b1) (U bD) (Y bw ad bk) (Y S an P);obtain⟨eg,ex,d2,er,e3,fr,d5,en,e9,fv,e1,d4,es,fR⟩:=bd H;obtain⟨e2,a9⟩:∃s,(((((((e5.setCell ⟨b,0,O⟩ (V I ba)).setCell ⟨b,1,O⟩ (U al)).setCell ⟨b,2,O⟩ (V I bR)).setCell ⟨b,3,O⟩ (V I b1)).setCell ⟨b,4,O⟩ (U bD)).setCell ⟨b,5,O⟩ (Y bw ad bk)).setCell ⟨b,6,O⟩ (Y S an P))=s:=⟨_,rfl⟩;rw[a9]at ao a1;obtain⟨a2,db,df⟩:=zx3 ao a1 a9;clear a0 u cc H b5 dp b6 c2 dv ao a1 a9
 go_wp2_with fail
 rw[df.out];clear df;refine(nY e2).mono ?_;rintro e ga ⟨rfl,a5⟩;have G:=db.out.below a5;have c9:=(a5.block _ (lt_of_heap a2.out)).trans a2.out;have bn:=G.heap c6.out (by omega);obtain⟨gx,gd,f5,c3,c4,c5,gf,_⟩:=bd c9;obtain⟨g0,gg,f6,g4,f7,gl,ge,gr,gb,g5,f3,g3,g1,g2⟩:=bd bn;have cv:=xS.far G (λk (g:_<=k) _ e=>by omega) _ _ dc.out;obtain⟨f0,fn⟩:=zx2 cv bn;have e4:=zD ((cb.out.mono (D':=λk=>k=b\/k=b+1\/k=a) (λ_ _ e=>.inr e)).step G (λk _ e=>.inl e));clear a5 G c9 bn cv dc c6 cb db a2 eg ex d2 er e3 fr d5 en e9 fv e1 d4 es fR
 go_wp2_with fail
 obtain⟨fs,c0⟩:=aG fn.out (V I ba) (U al) (V I bR) (V I b1) (U bD) (Y bw ad bk) (Y S an P);exact bodyPost_ret (dH results54 _ _ _ _ fs rfl rfl) rfl ⟨⟨_,rfl,xS.mono (λk (g:_<=k) _=>by show w.heap.size<=k;omega) _ _ (xS.far c0 (λk (g:_<=k) _ e=>by omega) _ _ f0.out)⟩,(e4.out.step c0 (D':=(·=q)) (λk g (e:k=q)=>by omega)).to_below (η _) (λk g e=>by omega)⟩
end
section
attribute [local go_sem] ak
structure QOk(g:List Tp.Nd)(cf:List Nat)(outs:List Tp.Nd):Prop where
 good:yt g
 few:yR g
 ok:Tp.okGr 0 g=true
 say:Ag g
 cls:Tp.classes g=W cf
 len:cf.length=g.length
 cm:∀c∈cf,c < g.length
 kid:∀x∈g,∀k∈Tp.kidsOf x,k < g.length
 c0:cf[0]? =W 0
 tid:Tp.tidy 0 (Tp.whole g cf)=W outs
 goodW:yt (Tp.whole g cf)
 fewW:yR (Tp.whole g cf)
theorem wY(g j:List Tp.Nd)(r:List Nat)(v:Value)(s:NS)(w:World)(p:yc w s g v)(N:∀k,s k->k < w.heap.size)(A:Glob w)(d:QOk g r j):
 Calls π 37 #[γ #[V I 0,v]] w λe w'=>(∃M,e=ρ (.tuple #[γ #[V I 0,M],V I 0])/\yc w' (New w) j M)/\Below w.heap.size w w':=by
 obtain⟨b,i⟩:∃b,w.heap.size=b:=⟨_,rfl⟩;have f:Far xO w ((w.alloc (J #[V I 0,v] 54)).alloc (J #[V I 0,Y O 0 0] 54)):=((ξ _ w).alloc _).alloc _;have u:((w.alloc (J #[V I 0,v] 54)).alloc (J #[V I 0,Y O 0 0] 54)).heap[b]? =W (J #[V I 0,v] 54 (0,0)):=by rw[<-i];exact aa _ (af w _)
 have C:((w.alloc (J #[V I 0,v] 54)).alloc (J #[V I 0,Y O 0 0] 54)).heap[b+1]? =W (J #[V I 0,Y O 0 0] 54 (0,0)):=ah _ _ _ (by simp[i]);have z:((w.alloc (J #[V I 0,v] 54)).alloc (J #[V I 0,Y O 0 0] 54)).heap.size=b+2:=by simp[i]
 have l:=oD g r v s _ (p.far f (λ_ _ _ e=>e)) (λk a=>zK (N k a) f.size) (A.far f (λ_ _ e=>e)) d.good d.ok d.say d.cls d.few.2;obtain⟨ad,ba,_⟩:=bO u;obtain⟨ab,bw,rfl,_⟩:=p.form;obtain⟨m,T⟩:∃m,g.length=m:=⟨_,rfl⟩;rw[T]at l ba u f C z ad p ⊢;obtain⟨bm,b9,a2,R,bD,ca⟩:=zx6 l f C i z p;obtain⟨b5,a9,c,n⟩:=zx4 A N d T;clear l f u C z p A N d T
 go_enter func37,ntmps37
 go_upto_region 1 with (fail)
 clear i;generalize ((w.alloc (J #[V I 0,Y ab m bw] 54)).alloc (J #[V I 0,Y O 0 0] 54))=cm at *
 go_wp2_with fail
 refine bm.out.mono ?_;rintro e bb ⟨⟨b3,cb,rfl,be,bn,cv,co,ch⟩,S⟩;have t:=b9.out.below S;have a5:=iX g r (Y ab m bw) s b3 cb m bb (ca.out.far t (λ_ _ _ e=>e)) be bn (by rw[<-n.out];exact c.out.len) n.out (λb0 l=>by rw[<-n.out];exact c.out.cm b0 l) c.out.few.1 (λx bx k a=>by rw[<-n.out];exact c.out.kid x bx k a) c.out.c0 (by rw[<-n.out];exact c.out.few.2) (λk a=>⟨zK (a9.out k a) t.size,λe=>by have:=a9.out k a;have:=bD.out;have:=R.out;omega⟩);have a4:=(S.block _ (lt_of_heap a2.out)).trans a2.out;obtain⟨a6,a1,bR⟩:=zx3 a4 a5 t;clear a5 t S be bn a4 bm ad ba
 go_upto_region 4 with (fail)
 go_wp2_with fail
 refine a1.out.mono ?_;rintro e q ⟨⟨b8,rfl,X⟩,F⟩;have H:=bR.out.below F;have a3:=ng 0 (Tp.whole g r) j b8 (λk=>bb.heap.size<=k/\k < q.heap.size) q (X.mono (λk o b4=>⟨o,b4⟩)) (λk a=>a.2) (b5.out.far H (λ_ _ e=>e)) c.out.goodW c.out.fewW c.out.tid;have a0:=(F.block _ (lt_of_heap a6.out)).trans a6.out;obtain⟨D,P,cc⟩:=zx3 a0 a3 H;have ao:((0:Nat):Int)=0:=rfl;rw[ao]at P;clear a3 H X F a0 a1 ao
 go_wp2_with fail
 refine P.out.mono ?_;rintro e b1 ⟨⟨M,rfl,G⟩,L⟩;obtain⟨an,ac,rfl,_⟩:=G.form;have E:=cc.out.below L;have o:=(L.block _ (lt_of_heap D.out)).trans D.out;obtain⟨ct,cl,u0,u1⟩:=bO o;obtain⟨bs,y⟩:=wZ o (V I 0) (Y an j.length ac);have ck:b+2<=q.heap.size:=by have bk:=lt_of_heap D.out;omega
 have av:=(G.far y (λk a _ e=>by have bk:q.heap.size<=k:=a;omega)).mono (G':=New w) (λk a _=>by have bk:q.heap.size<=k:=a;have:=R.out;show w.heap.size<=k;omega);have al:Below w.heap.size w ((b1.setCell ⟨b+1,0,O⟩ (V I 0)).setCell ⟨b+1,1,O⟩ (Y an j.length ac)):=(E.to_below (η _) (λ_ _ e=>e)).trans (y.to_below E.size (λk a e=>by have:=R.out;omega));obtain⟨b2,b6,cf⟩:=zx3 av al bs;clear av al bs y o G L E P
 go_wp2_with fail
 exact bodyPost_ret (fA results37 _ (b+1) _ _ _ cf.out rfl) rfl ⟨⟨_,rfl,b2.out⟩,b6.out⟩
end
section
attribute [local go_sem] ak
def zm(f:List Tp.Nd)(d:Tp.B):Prop:=∀(a:World) (b:NS) (c:Value),yc a b f c->(∀k,b k->k < a.heap.size)->Glob a->Calls π 38 #[γ #[V I 0,c]] a λe w'=>e=ρ (.tuple #[xR d,V I 0])/\Below a.heap.size a w'
theorem sR(g i:List Tp.Nd)(G:List Nat)(p:Tp.B)(v:Value)(y:NS)(w:World)(r:yc w y g v)(E:∀k,y k->k < w.heap.size)(t:Glob w)(l:QOk g G i)(C:zm i p):
 Calls π 19 #[γ #[V I 0,v]] w λe w'=>e=ρ (.tuple #[xR p,V I 0])/\Below w.heap.size w w':=by
 have b:Far xO w (w.alloc (J #[V I 0,v] 54)):=(ξ _ w).alloc _;have m:=af w (J #[V I 0,v] 54);have z:=wY g i G v y _ (r.far b (λ_ _ _ e=>e)) (λk D=>zK (E k D) b.size) (t.far b (λ_ _ e=>e)) l;obtain⟨ad,al,rfl,_⟩:=r.form;obtain⟨q,u⟩:∃q,g.length=q:=⟨_,rfl⟩;obtain⟨a2,s⟩:∃T,xR p=U T:=⟨_,rfl⟩;rw[u]at z b m;rw[u];obtain⟨R,an,_⟩:=bO m;obtain⟨F,X,ao,ab⟩:=zx4 z b C t;clear z b m r t E l C u;rw[s]
 go_enter func19,ntmps19
 go_upto_region 1 with (fail)
 generalize (w.alloc (J #[V I 0,Y ad q al] 54))=av at *
 go_wp2_with fail
 refine F.out.mono ?_;rintro e c ⟨⟨a0,rfl,j⟩,M⟩;obtain⟨d,f,rfl,_⟩:=j.form;obtain⟨a,n⟩:∃a,i.length=a:=⟨_,rfl⟩;rw[n]at j;have L:=X.out.below M;have x:=L.alloc (J #[V I 0,Y d a f] 54);have H:=af c (J #[V I 0,Y d a f] 54);have o:=ao.out (c.alloc (J #[V I 0,Y d a f] 54)) (λk=>k < c.heap.size) (Y d a f) ((j.mono (G':=λk=>k < c.heap.size) (λk _ l=>l)).far ((ξ xO c).alloc _) (λ_ _ _ e=>e)) (λk D=>by simp;omega) (ab.out.far x (λ_ _ e=>e));obtain⟨a4,a1,_⟩:=bO H;rw[s]at o;obtain⟨A,ac⟩:=zx2 o x;clear o L x H j M F R an;rw[n];clear n s
 go_upto_region 4 with (fail)
 generalize (c.alloc (J #[V I 0,Y d a f] 54))=a3 at *
 go_wp2_with fail
 refine A.out.mono ?_;rintro e S ⟨rfl,N⟩;have P:Below w.heap.size w S:=(ac.out.below N).to_below (η _) (λ_ _ e=>e);clear N A
 go_wp2_with fail
 go_ret2
 exact⟨rfl,P⟩
end
section
attribute [local go_sem] ak
theorem xe(v:Value)(a:World):(Instr.typeAssert (.iface 101 v) 20 101 false).run π a=.ok v a:=by kernel_rfl
theorem xJ(v:Value)(a:World):(Instr.typeAssert (.iface 78 v) 20 78 false).run π a=.ok v a:=by kernel_rfl
theorem mz(s:ByteArray)(p:s.size<=1000000)(l:(Ln.split s.data.toList).2.2=0)(m:Value)(w:World)(j:Glob w):
 Calls π 33 #[γ #[U s],m] w λe w'=>(∃v,e=ρ (.tuple #[.iface 101 v,.nilIface])/\AC w.heap.size v (Ln.split s.data.toList).1 w')/\Below w.heap.size w w':=by
 have d:Below w.heap.size w (w.alloc (J #[U s] 73)):=(ζ _ w).alloc (η _) _;have b:=p7 s p _ (j.step d);unfold Ao at b;rw[l]at b;have r:(w.alloc (J #[U s] 73)).cell? ⟨w.heap.size,0,O⟩=W (U s):=ae (af w _) 0;obtain⟨g,c⟩:=zx2 b d;clear b d j
 go_enter func33,ntmps33
 go_wp2_with fail
 refine g.out.mono ?_;rintro e x ⟨⟨v,rfl,f⟩,i⟩;obtain⟨z,A,C,rfl⟩:∃a n k,v=Y a n k:=by obtain⟨a,_,_,k,t,_⟩:=az f;exact⟨_,_,_,t⟩
 have u:=zD (aW (base':=w.heap.size) f (by simp));have q:=zD (c.out.trans (i.mono c.out.size));clear f i g c r;generalize (Ln.split s.data.toList).2.1=o at *
 go_wp2_with fail
 refine(fd o x).mono ?_;rintro e y ⟨rfl,rfl⟩
 go_wp2_with fail
 go_ret2
 exact⟨⟨_,rfl,u.out⟩,q.out⟩
theorem nX(M m:Value)(c:List Ln.Line)(z:List Tp.En)(t:Tp.Tree)(v:Value)(E:NS)(w:World)(ao:Row w E c.length v (ye c))(S:∀k,E k->k < w.heap.size)(an:c.length<=10000)(al:∀x∈c,0<=x.ind/\x.ind<=8000)(a0:∀x∈c,x.s.length<=100000/\Ln.right x.s=true/\Ln.plainB x.s=true)(a6:Tp.ents c=W z)(a4:∀x∈z,(∀t∈x.l,zf t)/\x.l.length<=100000)(P:Tp.bread z=W t)(a3:Glob w):
 Calls π 34 #[γ #[M],.iface 101 v] w λe w'=>(∃D:List Value,e=ρ (.tuple #[.iface 78 (γ D.toArray),.nilIface])/\xS w' (New w) t D)/\Below w.heap.size w w':=by
 have l:Below w.heap.size w (w.alloc (J #[M] 73)):=(ζ _ w).alloc (η _) _;have ba:=uu c z t v E _ (ao.below l) (λk R=>zK (S k R) l.size) an al a0 a6 a4 P (a3.step l);have bx:=xe v;obtain⟨ad,y⟩:=zx2 ba l;clear ba l a3 ao S an al a0 a6 a4 P
 go_enter func34,ntmps34
 go_wp2_with fail
 refine ad.out.mono ?_;rintro e a ⟨⟨D,rfl,F⟩,a1⟩;obtain⟨j,u,n,p,i,f,s,q,o,d,g,rfl⟩:=F.form;have H:=y.out.trans (a1.mono y.out.size);have C:Far xO a ((a.alloc (J #[V I j,U u,V I n,V I p,U i,Y f s q,Y o d g] 78)).drew):=((ξ _ a).alloc _).drew;have a9:=cq (af a (J #[V I j,U u,V I n,V I p,U i,Y f s q,Y o d g] 78));obtain⟨ab,av,T,a5,N,bb,L,_⟩:=bd a9;have A:(λb=>b.cell? ⟨a.heap.size,0,O⟩=W (V I j)/\b.cell? ⟨a.heap.size,1,O⟩=W (U u)/\b.cell? ⟨a.heap.size,2,O⟩=W (V I n)/\b.cell? ⟨a.heap.size,3,O⟩=W (V I p)/\b.cell? ⟨a.heap.size,4,O⟩=W (U i)/\b.cell? ⟨a.heap.size,5,O⟩=W (Y f s q)/\b.cell? ⟨a.heap.size,6,O⟩=W (Y o d g)) ((a.alloc (J #[V I j,U u,V I n,V I p,U i,Y f s q,Y o d g] 78)).drew):=⟨ab,av,T,a5,N,bb,L⟩;clear ab av T a5 N bb L;have a2:=xS.mono (G':=New w) (λk (R:_<=k) _=>by have:=y.out.size;show w.heap.size<=k;omega) _ _ (xS.far C (λ_ _ _ e=>e) _ _ F);have b1:=zD a2;have bw:=zD (H.trans (C.to_below (B:=w.heap.size) (by exact H.size) (λ_ _ e=>e.elim)));clear a1 H C a2 F ad y bx
 go_upto_region 2 with (fail)
 refine wp_region_noPanic ?_;refine ar (λb=>b.cell? ⟨a.heap.size,0,O⟩=W (V I j)/\b.cell? ⟨a.heap.size,1,O⟩=W (U u)/\b.cell? ⟨a.heap.size,2,O⟩=W (V I n)/\b.cell? ⟨a.heap.size,3,O⟩=W (V I p)/\b.cell? ⟨a.heap.size,4,O⟩=W (U i)/\b.cell? ⟨a.heap.size,5,O⟩=W (Y f s q)/\b.cell? ⟨a.heap.size,6,O⟩=W (Y o d g)) [] (by kernel_rfl) ?_;refine aJ (by kernel_rfl) (λ_ _ _ _ G=>G) A 3 [0,1,2,3] _ _ (by kernel_rfl) ?_;iterate 4 (refine ax (v:=?_) ?_ ?_;rotate_left;·(intro bR r;(try dsimp only at r);(try obtain⟨bD,be,bk,bm,bn,bs,b0⟩:=r);go_simp;try with_reducible rfl);(try go_frame))
 refine xT.done ?_;try dsimp only
 refine aq [4] ?_;refine aj rfl (λK X=>?_) xQ.nil
 go_simp
 refine(fd 0 _).mono ?_;rintro e w5 ⟨rfl,ac⟩;obtain rfl:=ac.symm;refine X.out _ _ (λ_=>A) ?_;clear X K ac
 (try go_frame)
 refine aJ (by kernel_rfl) (λ_ _ _ _ G=>G) A 0 [5,6] _ _ (by kernel_rfl) ?_;iterate 2 (refine ax (v:=?_) ?_ ?_;rotate_left;·(intro bR r;(try dsimp only at r);(try obtain⟨bD,be,bk,bm,bn,bs,b0⟩:=r);go_simp;try with_reducible rfl);(try go_frame))
 refine xT.done ?_;try dsimp only
 refine aP (by kernel_rfl) (NoPanic.normal ?_) _;clear A a9
 go_wp2_with fail
 go_ret2
 exact⟨⟨_,rfl,b1.out⟩,bw.out⟩
theorem mJ(A m:Value)(t:Tp.Tree)(f:List Value)(r:NS)(g:List Tp.Nd)(w:World)(D:xS w r t f)(E:zb t)(S:Glob w)(y:∀k,r k->k < w.heap.size)(P:Tp.graph t=W g)(M:(yv t).Nodup)(z:Tp.depth t<=900):
 Calls π 35 #[γ #[A],.iface 78 (γ f.toArray)] w λe w'=>(∃p,e=ρ (.tuple #[.iface 54 (γ #[V I 0,p]),.nilIface])/\yc w' (New w) g p)/\Below w.heap.size w w':=by
 have i:Below w.heap.size w (w.alloc (J #[A] 73)):=(ζ _ w).alloc (η _) _;have T:=sQ t f r g _ (xS.far (Far.of_below i xO) (λ_ _ _ e=>e) _ _ D) E (S.step i) (λk C=>zK (y k C) i.size) P M z;have ad:=xJ (γ f.toArray);obtain⟨L,n⟩:=zx2 T i;clear T i S D E y P M z;generalize Value.agg f.toArray=ao at *
 go_enter func35,ntmps35
 go_wp2_with fail
 refine L.out.mono ?_;rintro e a ⟨⟨p,rfl,s⟩,R⟩;obtain⟨c,l,rfl,_⟩:=s.form;generalize g.length=b at *;have x:=n.out.trans (R.mono n.out.size);have q:Far xO a ((a.alloc (J #[V I 0,Y c b l] 54)).drew):=((ξ _ a).alloc _).drew;obtain⟨G,N,_⟩:=bO (cq (af a (J #[V I 0,Y c b l] 54)));have o:(λd=>d.cell? ⟨a.heap.size,0,O⟩=W (V I 0)/\d.cell? ⟨a.heap.size,1,O⟩=W (Y c b l)) ((a.alloc (J #[V I 0,Y c b l] 54)).drew):=⟨G,N⟩;clear G N;have ab:=zD ((s.far q (λ_ _ _ e=>e)).mono (G':=New w) (λk (C:_<=k) _=>by have:=n.out.size;show w.heap.size<=k;omega));have ac:=zD (x.trans (q.to_below (B:=w.heap.size) (by exact x.size) (λ_ _ e=>e.elim)));clear R x q s L n ad
 go_upto_region 2 with (fail)
 refine wp_region_noPanic ?_;refine ar (λd=>d.cell? ⟨a.heap.size,0,O⟩=W (V I 0)/\d.cell? ⟨a.heap.size,1,O⟩=W (Y c b l)) [] (by kernel_rfl) ?_;refine aJ (by kernel_rfl) (λ_ _ _ _ u=>u) o 3 [0,1,2] _ _ (by kernel_rfl) ?_;iterate 3 (refine ax (v:=?_) ?_ ?_;rotate_left;·(intro an j;(try dsimp only at j);(try obtain⟨al,X⟩:=j);go_simp;try with_reducible rfl);(try go_frame))
 refine xT.done ?_;try dsimp only
 refine aq [3] ?_;refine aj rfl (λK F=>?_) xQ.nil
 go_simp
 refine(fd 0 _).mono ?_;rintro e w5 ⟨rfl,H⟩;obtain rfl:=H.symm;refine F.out _ _ (λ_=>o) ?_;clear F K H
 (try go_frame)
 refine aJ (by kernel_rfl) (λ_ _ _ _ u=>u) o 0 [4,5] _ _ (by kernel_rfl) ?_;iterate 2 (refine ax (v:=?_) ?_ ?_;rotate_left;·(intro an j;(try dsimp only at j);(try obtain⟨al,X⟩:=j);go_simp;try with_reducible rfl);(try go_frame))
 refine xT.done ?_;try dsimp only
 refine aP (by kernel_rfl) (NoPanic.normal ?_) _;clear o
 go_wp2_with fail
 go_ret2
 exact⟨⟨_,rfl,ab.out⟩,ac.out⟩
end
section
attribute [local go_sem] ak
theorem n9(d:Value)(c:Nat->Nat)(P:Nat->Value->NS->World->Prop)(i g:Nat)(w:World)(A:w.heap[i]? =W (.cells #[Y (W ⟨g,0,O⟩) 3 3] 97 (0,0)))(T:TypeId)(F:w.heap[g]? =W (.cells #[φ (.func (c 0)) #[d] #[],φ (.func (c 1)) #[d] #[],φ (.func (c 2)) #[d] #[]] T (0,0)))
(G:∀t,t < 3->∀args a,(callFunc (c t) args).run π a=.ok (.enter (c t) args) a)(bm:∀a,P 0 .nilIface xO a)
(bb:∀t x f a q D,P t x f a->Far D a q->(∀k,f k->¬D k)->P t x f q)
(be:∀t,t < 3->∀x f a,P t x f a->Glob a->(∀k,f k->k < a.heap.size)->Calls π (c t) #[d,x] a λe w'=>(∃r,e=ρ (.tuple #[r,.nilIface])/\P (t+1) r (λk=>a.heap.size<=k/\k < w'.heap.size) w')/\Below a.heap.size a w'):
 yQ π 69 #[Z (W ⟨i,0,O⟩)] 3 3 (λt c1 f a=>∃x,c1=#[x,.nilIface]/\P (t+1) x f a/\∀k,f k->w.heap.size<=k) xO (λk=>k=i\/k=g) True (λ_ a=>Glob a) (λ_=>True) w:=by
 intro l J db cl a C cb hF0 R c6 b5 al b1;have b0:=(C.block _ (lt_of_heap F)).trans F;have L:=(C.block _ (lt_of_heap A)).trans A;have bk:=C.size;obtain⟨B,p⟩:∃B,w.heap.size=B:=⟨_,rfl⟩;rw[p]at R bk al;have dn:i < B/\g < B:=⟨p ▸ lt_of_heap A,p ▸ lt_of_heap F⟩;have df:=zF L 0 rfl;have b3:∀(t:Nat) (q:World),t < 3->q.heap[g]? =W (.cells #[φ (.func (c 0)) #[d] #[],φ (.func (c 1)) #[d] #[],φ (.func (c 2)) #[d] #[]] T (0,0))->q.cell? ⟨g,t,O⟩=W (φ (.func (c t)) #[d] #[]):=λt q da b=>by
  match t with
  |0=>exact ae b 0
  |1=>exact ae b 1
  |2=>exact ae b 2
  |n+3=>omega
 obtain⟨ck,cm,cv,c9,c0,co⟩:=zx6 b3 G bb be al b5;have c4:=zD R;have cf:=zD (bm a);have a4:=zD (θ L b0);obtain⟨bx,ch⟩:=zx2 hF0 b1;clear b3 G bb be al b5 R c6 bm L b0 hF0 b1 C cb A F p
 go_enter func69,ntmps69
 go_wp2_with fail
 go_step3
 go_wp2_with fail
 go_step3
 go_wp2_with fail
 go_loopw [3,4,9] (λc2 ct ab wr=>∃(t:Nat) (j f:NS),ct=.nilIface/\ab=V I (t:Int)/\t<=3/\P t c2 f wr/\J t j wr/\(∀k,f k->k < wr.heap.size)/\wr.heap[i]? =W (.cells #[Y (W ⟨g,0,O⟩) 3 3] 97 (0,0))/\wr.heap[g]? =W (.cells #[φ (.func (c 0)) #[d] #[],φ (.func (c 1)) #[d] #[],φ (.func (c 2)) #[d] #[]] T (0,0))/\B<=wr.heap.size/\(∀k,j k->k≠i/\k≠g)) (λ_ _ ab _=>3 - (Lib.intOf ab).toNat)
 case atStart=>exact⟨0,cl,xO,rfl,rfl,z_ _,cf.out,ch.out,λ_ b=>b.elim,a4.out.1,a4.out.2,bk,λk b=>⟨λe=>(bx.out k b).2 (.inl e),λe=>(bx.out k b).2 (.inr e)⟩⟩
 case round=>
  obtain⟨t,j,f,rfl,rfl,ds,a1,s,S,X,E,p,ad⟩:=hrel;by_cases u:t < 3
  ·have c3:=ck.out t wr u E
   have G:=cm.out t u;obtain⟨ba,bR⟩:=co.out t j wr s;have a9:=c9.out t u _ f wr a1 ba S;have dp:(t:Int) < 3:=by omega
   have d1:(0:Int)<=(t:Int):=by omega
   obtain⟨b6,b8⟩:=zx2 a9 s;have bn:=zD (bR trivial);obtain⟨z,N,ac⟩:=zx3 X E ad;clear a9 s bR X E ad a1 ba S
   go_wp2_with fail
   refine b6.out.mono ?_;rintro e H ⟨⟨r,rfl,ao⟩,v⟩;have ca:=c4.out t j _ _ b8.out ((Far.of_below v (y8 xO j B)));have a2:=(v.block _ (lt_of_heap z.out)).trans z.out;have b9:=(v.block _ (lt_of_heap N.out)).trans N.out;have dc:=v.size;have a6:=zD ao;have av:=zD (θ a2 b9);obtain⟨d0,dv,assign,body,bs,a3⟩:=c0.out t u j (λk=>wr.heap.size<=k/\k < H.heap.size) #[r,.nilIface] H ca ⟨r,rfl,ao,λk b=>Nat.le_trans p b.1⟩ (λk b=>⟨λan=>by have:=bn.out k an;omega,b.2⟩);have a0:=zD a3;clear a3 ao v ca a2 b9 b6 b8 z N G c3
   go_upto_region 6 with (fail)
   refine(wpIn_wide (n:=4)).1 ?_
   gi_wp2
   refine(a0.out).mono ?_;rintro e o ⟨y,⟨m,M⟩,(⟨rfl,b4⟩|⟨rfl,a5⟩)⟩
   ·have dr:=m.size
    have bw:∀k,y k->k≠i/\k≠g:=by
     intro k b;rcases M k b with b|b|b
     ·exact ac.out k b
     ·exact⟨by omega,by omega⟩
     ·exact⟨by omega,by omega⟩
    have b2:=cv.out _ _ _ _ _ j a6.out m (λk b an=>by have:=bn.out k an;omega);have c5:=zD (show P (t+1) r (λk=>wr.heap.size<=k/\k < H.heap.size) o/\J (t+1) y o/\(∀k,(wr.heap.size<=k/\k < H.heap.size)->k < o.heap.size)/\o.heap[i]? =W (.cells #[Y (W ⟨g,0,O⟩) 3 3] 97 (0,0))/\o.heap[g]? =W (.cells #[φ (.func (c 0)) #[d] #[],φ (.func (c 1)) #[d] #[],φ (.func (c 2)) #[d] #[]] T (0,0))/\B<=o.heap.size/\(∀k,y k->k≠i/\k≠g)from ⟨b2,b4,λk b=>by omega,m.heap av.out.1 (λe=>(ac.out _ e).1 rfl),m.heap av.out.2 (λe=>(ac.out _ e).2 rfl),by omega,bw⟩);clear b4 m M a0 bs bw b2 a6 av
    gi_wp2
    go_wp2_with fail
    go_roundw
    case rel=>exact⟨t+1,y,_,rfl,by go_num,u,c5.out⟩
    case measure=>simp[Lib.intOf];omega
   ·have z:=zD a5
    clear a5 m M a0 bs
    gi_wp2
    go_wp2_with fail
    try rw[Exit.noGoto_normal]
    go_end0
    exact⟨⟨_,rfl⟩,.inr ⟨y,z.out⟩⟩
  ·obtain rfl:t=3:=by omega
   have cc:=zD s;clear a1 s ad X E S
   go_wp2_with fail
   try rw[Exit.noGoto_normal]
   go_end0
   exact⟨⟨_,rfl⟩,.inl ⟨j,cc.out,trivial⟩⟩
end
end Go.Proofs.YtbikgdhbiebhcaaGreatDoor
