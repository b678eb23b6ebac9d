/- Part 9. -/
import Derived.Test.YtbikgdhbiebhcaaGreatDoorW08
set_option linter.unusedVariables false
set_option linter.unusedSimpArgs false
set_option maxRecDepth 100000
set_option maxHeartbeats 2000000
open Go.Value renaming int -> V, string -> U, slice -> Y, pointer -> Z, func -> φ, agg -> γ, bool -> β
open Go.IntKind renaming i64 -> I
open Option renaming some -> W, none -> O
open Go.Obj renaming cells -> J
open Go.Ending renaming returned -> ρ
open Go.Proofs.Tryz renaming prog -> π
open Nat renaming le_refl -> η
open And renaming intro -> θ
open Go.RowKit.Below renaming refl -> ζ
namespace Go.Proofs.YtbikgdhbiebhcaaGreatDoor
open Go.RowKit Tryz
section
attribute [local go_sem] ak
theorem fA{e:Func}{a f:Tmp}(i:e.results=#[.cell a 54,.tmp f])(c:World)(q:Nat)(x d:Value)(b:Array Value)(k:c.heap[q]? =W (J #[x,d] 54 (0,0)))(l:b.getD a undef=Z (W ⟨q,0,O⟩)):
 (results e b).run π c=.ok (.tuple #[γ #[x,d],b.getD f undef]) c:=by
 have g:b[a]?.getD undef=Z (W ⟨q,0,O⟩):=by simpa using l
 have j:=run_loadVar_row (P:=π) c q 54 54 #[x,d] (0,0) _ k underlying54 rfl (by kernel_rfl);simp[results,i,asAddr,g,j,Sem.run_bind,Result.andThen]
def yR(g:List Tp.Nd):Prop:=(∀x∈g,yx x)/\g.length<=200
theorem fK(n:Nat)(x:Tp.Nd)(a:Tp.okNd n x=true):∀i∈x.kids,i < n:=by
 unfold Tp.okNd at a;intro i b;by_cases d:x.k=0
 ·rw[if_pos d]at a
  simp only[zQ,List.isEmpty_iff]at a;rw[a.2]at b;simp at b
 ·rw[if_neg d]at a
  by_cases c:x.k=1
  ·rw[if_pos c]at a
   simp only[zQ,List.all_eq_true,decide_eq_true_eq]at a;exact a.2 i b
  ·rw[if_neg c]at a
   simp only[zQ,List.all_eq_true,decide_eq_true_eq]at a;exact a.2 i b
theorem d8(g:List Tp.Nd)(n:Nat)(q:∀i,i < n->∀j∈Tp.kidsOf (g.getD i ⟨0,Tp.Sc.null,[],[]⟩),j < n):∀(m:Nat) (s d f:List Nat),Tp.walk g m s d=W f->d.Nodup->(∀i∈d,i < n)->(∀i∈s,i < n)->(∀i∈d,∀j∈Tp.kidsOf (g.getD i ⟨0,Tp.Sc.null,[],[]⟩),j∈d\/j∈s)->f.Nodup/\(∀i∈f,i < n)/\(∀i∈f,∀j∈Tp.kidsOf (g.getD i ⟨0,Tp.Sc.null,[],[]⟩),j∈f)
 |0,_,_,_,b,_,_,_,_=>by simp[Tp.walk]at b
 |m+1,[],d,f,b,h1,h2,h3,h4=>by
  simp[Tp.walk]at b
  subst b;exact⟨h1,h2,λi u j l=>by simpa using h4 i u j l⟩
 |m+1,i::r,d,f,b,h1,h2,h3,h4=>by
  simp only[Tp.walk]at b;by_cases p:i∈d
  ·rw[if_pos p]at b
   refine d8 g n q m r d f b h1 h2 (λk c=>h3 k (by simp[c])) (λk c j l=>?_);rcases h4 k c j l with b|b
   ·exact .inl b
   ·rcases List.mem_cons.1 b with rfl|b
    ·exact .inl p
    ·exact .inr b
  ·rw[if_neg p]at b
   refine d8 g n q m _ _ f b ?_ ?_ ?_ ?_
   ·rw[List.nodup_append]
    exact⟨h1,by simp,λa v w t e=>by simp at t;subst t;subst e;exact p v⟩
   ·intro k c
    rcases List.mem_append.1 c with b|b
    ·exact h2 k b
    ·simp at b;subst b;exact h3 _ (by simp)
   ·intro k c
    rcases List.mem_append.1 c with b|b
    ·exact q i (h3 i (by simp)) k b
    ·exact h3 k (by simp[b])
   ·intro k c j l
    rcases List.mem_append.1 c with b|b
    ·rcases h4 k b j l with o|o
     ·exact .inl (by simp[o])
     ·rcases List.mem_cons.1 o with rfl|o
      ·exact .inl (by simp)
      ·exact .inr (by simp[o])
    ·simp at b;subst b;exact .inr (List.mem_append.2 (.inl l))
theorem kj:∀(n:Nat) (l:List Nat),l.Nodup->(∀i∈l,i < n)->l.length<=n
 |0,l,_,h=>by
  cases l with
  |nil=>simp
  |cons i r=>have:=h i (by simp);omega
 |n+1,l,hn,h=>by
  have d:=kj n (l.erase n) (hn.erase n) (λi c=>by
   have b:=(hn.mem_erase_iff).1 c;have:=h i b.2;omega)
  have b:=List.length_erase (a:=n) (l:=l);split at b<;>omega
theorem ng(c:Nat)(g ad:List Tp.Nd)(v:Value)(a6:NS)(w:World)(b0:yc w a6 g v)(e6:∀k,a6 k->k < w.heap.size)(hF:Glob w)(bn:yt g)(al:yR g)(a5:Tp.tidy c g=W ad):
 Calls π 59 #[γ #[.int I (c:Int),v]] w λe w'=>(∃hu,e=ρ (.tuple #[γ #[.int I 0,hu],.int I 0])/\yc w' (New w) ad hu)/\Below w.heap.size w w':=by
 obtain⟨kt,T,kr,i6,kf⟩:=info_parts mI;unfold Tp.tidy at a5;by_cases be:Tp.okGr c g=true
 case neg=>rw[if_neg be]at a5;cases a5
 rw[if_pos be]at a5;obtain⟨m,ds,hf⟩:=zN.1 a5;have hv:ad=m.map (AM g m):=hf.symm;have e0:=be;unfold Tp.okGr at e0;simp only[zQ,decide_eq_true_eq,List.all_eq_true]at e0;obtain⟨⟨js,l0⟩,f9⟩:=e0;have c3:∀x∈g,yx x/\∀i∈x.kids,i < g.length:=λx C=>⟨al.1 x C,fK _ x (f9 x C)⟩;have c4:m.Nodup/\(∀i∈m,i < g.length)/\(∀i∈m,∀j∈Tp.kidsOf (g.getD i ⟨0,Tp.Sc.null,[],[]⟩),j∈m):=d8 g g.length (λi T j a3=>by
  obtain⟨x,C⟩:∃x,g[i]? =W x:=⟨_,zE T⟩;rw[zY,C,Option.getD_some]at a3;exact(c3 x (zL C)).2 j (bj x j a3)) 20000 [c] [] m ds List.nodup_nil (by simp) (λi T=>by simp at T;omega) (by simp)
 have ih:m.length<=200:=Nat.le_trans (kj _ m c4.1 c4.2.1) js;obtain⟨a,r,rfl,nf⟩:=b0.form;obtain⟨d,fz⟩:∃d,g.length=d:=⟨_,rfl⟩;have d4:=λl (N:Below w.heap.size w l)=>iE c a6 g _ l (b0.below N) (λk b=>zK (e6 k b) N.size) (hF.step N) bn be;rw[fz]at d4 b0 ⊢;obtain⟨q,cv⟩:∃q,w.heap.size=q:=⟨_,rfl⟩;have d6:Below w.heap.size w ((w.alloc (J #[.int I (c:Int),Y a d r] 54)).alloc (J #[.int I 0,Y O 0 0] 54)):=((ζ _ w).alloc (η _) _).alloc (by simp) _;have av:((w.alloc (J #[.int I (c:Int),Y a d r] 54)).alloc (J #[.int I 0,Y O 0 0] 54)).heap[q]? =W (J #[.int I (c:Int),Y a d r] 54 (0,0)):=by rw[<-cv];exact aa _ (af w _)
 have bR:((w.alloc (J #[.int I (c:Int),Y a d r] 54)).alloc (J #[.int I 0,Y O 0 0] 54)).heap[q+1]? =W (J #[.int I 0,Y O 0 0] 54 (0,0)):=ah _ _ _ (by simp[cv]);have hJ:=zD (d4 _ d6);obtain⟨i7,fr,L,fl⟩:=zx4 b0 d6 cv e6;obtain⟨i8,k2,_⟩:=bO av;clear d4 b0 d6 cv e6 hF bn a5
 go_enter func59,ntmps59
 go_upto_region 1 with (fail)
 have m1:((w.alloc (J #[.int I (c:Int),Y a d r] 54)).alloc (J #[.int I 0,Y O 0 0] 54)).heap.size=q+2:=by simp[L.out]
 rw[L.out];generalize ((w.alloc (J #[.int I (c:Int),Y a d r] 54)).alloc (J #[.int I 0,Y O 0 0] 54))=lr at *
 go_wp2_with fail
 refine hJ.out.mono ?_;rintro e a9 ⟨rfl,cc⟩
 replace av:=(cc.block _ (lt_of_heap av)).trans av
 replace bR:=(cc.block _ (lt_of_heap bR)).trans bR
 have g5:=fr.out.trans (cc.mono fr.out.size);have i1:=cc.size;obtain⟨M,H,_⟩:=bO av;have co:=zD g5;clear cc g5 hJ fr i8 k2;have ho:=mi (c:Int) (Y a d r) ⟨_,_,_,rfl⟩ a9;have hR:=zD ho;clear ho
 go_wp2_with fail
 refine hR.out.mono ?_;rintro e y ⟨rfl,a2⟩;obtain⟨f,N⟩:∃f,a9.heap.size=f:=⟨_,rfl⟩;rw[N]at a2 i1 ⊢;have bD:Far xO a9 y:=by rw[a2];exact(((ξ _ a9).alloc _).alloc _).alloc _
 have fn:y.heap[f+2]? =W (J #[.int I (c:Int),Y a d r,.map (W (f+1))] 251 (0,0)):=by rw[a2];exact ah _ _ _ (by simp[N])
 have hW:xW π 3 y (f+1) []:=by
  rw[a2];have kk:(a9.alloc (J #[.int I (c:Int),Y a d r] 54)).heap.size=f+1:=by simp[N]
  have:=aL (P:=π) (K:=3) (a9.alloc (J #[.int I (c:Int),Y a d r] 54));rw[kk]at this;exact this.far ((ξ xO _).alloc _) id
 have c0:y.heap.size=f+3:=by rw[a2];simp[N]
 have a0:=(i7.out.below co.out).far bD (λ_ _ _ e=>e);have hC:=bD.heap av id;have g7:=bD.heap bR id;have ft:Below w.heap.size w y:=co.out.trans (bD.to_below co.out.size (λ_ _ e=>e));clear a2 bD hR av bR M H co
 go_upto_region 6 with (fail)
 have ab:Far xO y (y.alloc (J #[.int I 0,Y O 0 0] 54)):=(ξ _ y).alloc _;have d2:=af y (J #[.int I 0,Y O 0 0] 54);rw[c0]at d2;have hE:=pI c g (Y a d r) a6 m (f+2) (f+1) _ (by rw[fz];omega) c3 ds (by omega) (a0.far ab (λ_ _ _ e=>e)) (λk b=>by have ba:=fl.out k b;have b9:=L.out;simp[c0];omega) (ab.heap fn id) (hW.far ab id);have hm:=ab.heap hC id;have hk:=ab.heap g7 id;have ha:=ab.heap fn id;have hp:=a0.far ab (λ_ _ _ e=>e);have dc:Below w.heap.size w (y.alloc (J #[.int I 0,Y O 0 0] 54)):=ft.alloc ft.size _;have fG:(y.alloc (J #[.int I 0,Y O 0 0] 54)).heap.size=f+4:=by simp[c0]
 have f8:=zD hE;clear hE ab hC g7 fn a0 ft hW c0;generalize (y.alloc (J #[.int I 0,Y O 0 0] 54))=h1 at *
 go_wp2_with fail
 refine f8.out.mono ?_;rintro e b6 ⟨⟨wr0,rfl,ei⟩,hD,X⟩;have df:=X.heap hm (by omega);have hl:=X.heap hk (by omega);have hN:=X.heap ha (by omega);have gb:=X.heap d2 (by omega);have hj:=hp.far X (λk b _ e=>by have:=fl.out k b;have:=L.out;omega);have f3:Below w.heap.size w b6:=dc.trans (X.to_below dc.size (λi T e=>by have:=L.out;omega));have mb:f+4<=b6.heap.size:=by have:=X.size;omega
 obtain⟨l5,wc,rfl,_⟩:=ei.form;obtain⟨M,H,_⟩:=bO df;obtain⟨i2,hx,h7,h9,i0,k6⟩:=zx6 fG ei hD df hl hN;obtain⟨i3,c9,h4⟩:=zx3 hj f3 gb;obtain⟨an,d0⟩:∃an,m.length=an:=⟨_,rfl⟩;rw[d0]at ih hx ⊢;obtain⟨i5,da,f1⟩:=zx3 c3 c4 hv;clear hm hk ha d2 hp dc X ei hD df hl hN gb hj f3 f8 fG c3 c4 hv f9 be hf ds
 go_wp2_with fail
 go_loopw [27] (λs wr=>∃(t:Nat) (F:Option Addr) (u E:Nat),t<=an/\s=.int I (t:Int)/\TyI b6 (f+3) ad t F u E wr) (λs _=>an - (Lib.intOf s).toNat)
 case atStart=>exact⟨0,O,0,0,z_ _,rfl,h4.out,⟨[],xO,World.ownsRow_nil _ _ _ _,by rw[List.take_zero];unfold xX;rfl,λk S=>S.elim⟩,ξ _ _⟩
 case round=>
  obtain⟨t,F,u,E,nb,rfl,G⟩:=hrel;by_cases j9:t < an
  ·obtain⟨i,b3⟩:∃i,m[t]? =W i:=⟨_,zE (by rw[d0];exact j9)⟩
   have ht:=da.out.2.1 i (zL b3);obtain⟨x,C⟩:∃x,g[i]? =W x:=⟨_,zE ht⟩;have eq:g.getD i ⟨0,Tp.Sc.null,[],[]⟩=x:=by rw[zY,C];rfl
   have g6:ad[t]? =W ⟨x.k,x.x,Tp.keysOf x,(Tp.kidsOf x).map λj=>Tp.idx m j⟩:=by
    rw[f1.out,List.getElem?_map,b3];simp only[Option.map_some,AM,eq]
   have ex:=da.out.2.2 i (zL b3);rw[eq]at ex;obtain⟨hY,_⟩:=i5.out x (zL C);have bm:=G.far;have hX:=i3.out.far bm (λk b _ e=>by have:=fl.out k b;have:=L.out;omega);obtain⟨kv,hw,ck⟩:=hX.at C;rw[fz]at ck ht;obtain⟨z,o,cap,e,l6,f0,hb,hc,dv,it,h2⟩:=ck.cells;injection e with e1 e2 e3;clear e2;subst e1 e3;obtain⟨A,gx⟩:∃A,xR x.x.s=.string A:=⟨_,rfl⟩;rw[gx]at dv;obtain⟨mt,np,ne,hZ,_,nd,w0⟩:=(hx.out.far bm (λk b _ e=>by have S:h1.heap.size<=k:=b;have:=i2.out;omega)).nat b3;injection hZ with e01 e02 e03;subst e01 e03;have a1:=bm.heap h9.out (by omega);obtain⟨kc,hB,_⟩:=bO a1;have k4:(t:Int) < (an:Int):=by omega
   have l3:(0:Int)<=(t:Int):=by omega
   have m3:(i:Int) < (d:Int):=by omega
   have l4:(0:Int)<=(i:Int):=by omega
   obtain⟨c2,f2,hK,ga,kd,k1⟩:=zx6 G ck bm a1 g6 ex;have e7:=zD hY;clear G hX ck bm a1 g6 ex hY eq C b3 M H
   go_upto_region 9 with (fail)
   have hI:∀l,Far xO wr l->l.cell? ⟨q,1,O⟩=W (Y (W ⟨z,o,O⟩) d r)/\l.cell? ⟨z,o+i * 6,O⟩=W (.int I x.k)/\l.cell? ⟨z,o+i * 6+1,O⟩=W (.int I x.x.k)/\l.cell? ⟨z,o+i * 6+2,O⟩=W (.int I x.x.n)/\l.cell? ⟨z,o+i * 6+3,O⟩=W (.string A):=λl al=>⟨al.at hB id,al.at f0 id,al.at hb id,al.at hc id,al.at dv id⟩;obtain⟨n,c6⟩:∃q,wr.heap.size=q:=⟨_,rfl⟩;have ao:=af wr (J #[.int I 0,.int I 0,.int I 0,.string ⟨#[]⟩,Y O 0 0,Y O 0 0] 185);rw[c6]at ao;obtain⟨eg,e4,g1,g4,fv,en,u0,u1,u2,u3,u4,u5⟩:=pE ao
   go_region_held3 (λl=>l.cell? ⟨q,1,O⟩=W (Y (W ⟨z,o,O⟩) d r)/\l.cell? ⟨z,o+i * 6,O⟩=W (.int I x.k)/\l.cell? ⟨z,o+i * 6+1,O⟩=W (.int I x.x.k)/\l.cell? ⟨z,o+i * 6+2,O⟩=W (.int I x.x.n)/\l.cell? ⟨z,o+i * 6+3,O⟩=W (.string A)) (exact hI _ (by repeat (first|exact ξ _ _|assumption|refine Far.drew ?_|refine Far.alloc ?_ _|refine Far.drewN ?_ _|refine Far.setCell ?_ (λS=>absurd S (by simp only[c6];exact Nat.lt_irrefl _)) _))) (fail)
   have R:Far xO wr ((wr.alloc (J #[.int I x.k,.int I x.x.k,.int I x.x.n,.string A,Y O 0 0,Y O 0 0] 185)).drew):=((ξ _ wr).alloc _).drew;have hq:((wr.alloc (J #[.int I x.k,.int I x.x.k,.int I x.x.n,.string A,Y O 0 0,Y O 0 0] 185)).drew).heap[n]? =W (J #[.int I x.k,.int I x.x.k,.int I x.x.n,.string A,Y O 0 0,Y O 0 0] 185 (0,0)):=by rw[<-c6];exact af wr (J #[.int I x.k,.int I x.x.k,.int I x.x.n,.string A,Y O 0 0,Y O 0 0] 185)
   have hn:((wr.alloc (J #[.int I x.k,.int I x.x.k,.int I x.x.n,.string A,Y O 0 0,Y O 0 0] 185)).drew).heap.size=n+1:=by rw[<-c6];exact Array.size_push ..
   have a1:=R.heap ga.out id;clear eg e4 g1 g4 fv en u0 u1 u2 u3 u4 u5 ao hI f0 hb hc dv it h2 w0 kc hB;generalize ((wr.alloc (J #[.int I x.k,.int I x.x.k,.int I x.x.n,.string A,Y O 0 0,Y O 0 0] 185)).drew)=dr at *;obtain⟨M,H,_⟩:=bO a1;have hr:=bS (c:Int) x _ kv hw d i a6 dr (f2.out.far R (λ_ _ _ e=>e)) e7.out;obtain⟨hg,fs,gl,ch⟩:=zx4 hr hq R hn;clear hr hq R hn a1
   go_wp2_with fail
   refine hg.out.mono ?_;rintro e bs ⟨⟨no,rfl,er⟩,cm⟩;obtain⟨bw,b2,rfl,_⟩:=er.form;have cf:=(cm.block _ (lt_of_heap fs.out)).trans fs.out;have u4:=ag cf 4;have fv:=zF cf 4 rfl;have c1:Far (·=n) bs (bs.setCell ⟨n,4,O⟩ (Y bw (Tp.keysOf x).length b2)):=Far.setCell (D:=(·=n)) (ξ _ _) (p:=⟨n,4,O⟩) (λ_=>rfl) _;have hM:=ai cf 4 (Y bw (Tp.keysOf x).length b2);have hi:=gl.out.below cm;have cl:Far xO wr (bs.setCell ⟨n,4,O⟩ (Y bw (Tp.keysOf x).length b2)):=hi.step c1 (λk b e=>by omega);have g3:=(er.mono (G':=λk=>dr.heap.size<=k/\k < bs.heap.size) (λk ba b9=>⟨ba,b9⟩)).far c1 (λk b _ e=>by have:=ch.out;omega);have hh:=cl.heap ga.out id;have f7:=bQ (c:Int) x _ kv hw d i a6 _ (f2.out.far cl (λ_ _ _ e=>e)) e7.out;have nm:=cm.size;have l8:=c1.size;obtain⟨g2,ct,hs,hU,hQ⟩:=zx5 f7 hM cl g3 hh;clear er cm cf c1 hM hi cl g3 hh f7 hg fs gl M H
   go_upto_region 11 with (fail)
   simp only[Array.setIfInBounds,zA,zB,zC]at ct;generalize (bs.setCell ⟨n,4,O⟩ (Y bw (Tp.keysOf x).length b2))=h6 at *;obtain⟨M,H,_⟩:=bO hQ.out
   go_wp2_with fail
   refine g2.out.mono ?_;rintro e hS ⟨⟨l9,rfl,d5⟩,b5⟩;obtain⟨mp,lt,rfl,_⟩:=d5.form;have dp:=hs.out.below b5;have le:(Tp.kidsOf x).length<=100000:=Nat.le_trans (bI x) e7.out.2.2;have d3:=hK.out.step dp (λ_ _ e=>e.elim);have gc:=mm c (Y (W ⟨z,o,O⟩) d r) (Tp.kidsOf x) m _ (New h6) (f+2) (f+1) hS (by omega) d5 (d3.heap k6.out (by omega)) (h7.out.far d3 (by omega)) da.out.1 (λj a3=>by have:=da.out.2.1 j a3;omega) k1.out;have hG:=(b5.block _ (lt_of_heap ct.out)).trans ct.out;have hP:=hU.out.below b5;have m9:=b5.size;obtain⟨g8,he,es,hd⟩:=zx4 gc dp hG hP;clear d5 b5 dp d3 gc hG hP g2 ct hs hU hQ M H
   go_wp2_with fail
   refine g8.out.mono ?_;rintro e ca ⟨⟨md,rfl,d1⟩,bx⟩;obtain⟨bk,b1,rfl,_⟩:=d1.form;have c5:=(bx.block _ (lt_of_heap es.out)).trans es.out;have u5:=ag c5 5;have en:=zF c5 5 rfl;have b4:Far (·=n) ca (ca.setCell ⟨n,5,O⟩ (Y bk (Tp.kidsOf x).length b1)):=Far.setCell (D:=(·=n)) (ξ _ _) (p:=⟨n,5,O⟩) (λ_=>rfl) _;have ao:=ai c5 5 (Y bk (Tp.kidsOf x).length b1);have hA:Far xO wr (ca.setCell ⟨n,5,O⟩ (Y bk (Tp.kidsOf x).length b1)):=(he.out.below bx).step b4 (λk b e=>by omega);have f5:=(hd.out.below bx).far b4 (λk b _ e=>by have:=ch.out;omega);have hz:=(d1.mono (G':=λk=>hS.heap.size<=k/\k < ca.heap.size) (λk ba b9=>⟨ba,b9⟩)).far b4 (λk b _ e=>by have:=ch.out;omega);have m2:=bx.size;have l7:=b4.size;simp only[Array.setIfInBounds,zA,zB,zC]at ao;obtain⟨kb,b8,i4,h8⟩:=zx4 ao hA f5 hz;clear d1 bx c5 b4 ao hA f5 hz g8 es he hd
   go_upto_region 13 with (fail)
   generalize (ca.setCell ⟨n,5,O⟩ (Y bk (Tp.kidsOf x).length b1))=cb at *;obtain⟨db,gr,ac,a4,bb⟩:=c2.out.row;have e9:=b8.out.heap c2.out.hd id;have hL:=am ac b8.out (λ_ _ e=>e);have fR:=xX.far b8.out (λ_ _ _ e=>e) _ _ a4;have f6:=c2.out.step (by omega) b8.out;have f4:∀k,(Value.slice F u E).ownBlock=W k->k < n:=λk e=>by have:=(ac.lt k e).2;omega
   obtain⟨M,H,i9,h0⟩:=bO e9;obtain⟨eg,e4,g1,g4,fv,en,_⟩:=pE kb.out;have m4:=b8.out.size;have ls:=hK.out.size;have nn:=ch.out;obtain⟨kg,la,gd,k0,h5,ky⟩:=zx6 fR bb hL f6 f4 e9;clear ac e9 hL a4 fR bb f6 f4 c2
   go_wp2_with (at_builtin;refine wpList_append_lies _ rfl (.tmp 62) (.tmp 64) 52 rfl b6.heap.size 185 kt _ 6 88 underlying52 T kr i6 kf rfl (by decide) (Y F u E) t db rfl (gd.out.alloc _) ⟨cb.heap.size,0,O⟩ 1 1 [.int I x.k,.int I x.x.k,.int I x.x.n,.string A,Y bw (Tp.keysOf x).length b2,Y bk (Tp.kidsOf x).length b1] rfl rfl (λj l2 a3=>by rw[gK];exact(ae (af cb _) j).trans (by simpa using a3)) (by simp[Value.oneCell']) (by omega) (by unfold maxLen;omega) (by omega) (by simp;omega) _ rfl ?_;intro gg cap w5 ge g0 gk l1;have R:Far (λk=>(Value.slice F u E).ownBlock=W k) cb w5:=(((ξ (λk=>(Value.slice F u E).ownBlock=W k) cb).alloc _).grown g0 (λk e _=>e));have dn:=R.heap ky.out (λe=>by have:=(gd.out.lt _ e).1;omega);have ln:w5.cell? ⟨f+3,1,O⟩=W (Y F u E):=ae dn 1;have ns:w5.frozen? ⟨f+3,1,O⟩=false:=ag dn 1;have h3:=zD R;have hH:=zD ge;have kn:=zD gk;clear R ge g0 gk dn)
   have gf:=TyI.grow (x:=⟨x.k,x.x,Tp.keysOf x,(Tp.kidsOf x).map λj=>Tp.idx m j⟩) k0.out (by omega) kd.out (λk=>dr.heap.size<=k/\k < cb.heap.size) (λk b=>⟨by omega,b.2,λe=>by have:=h5.out k e;omega⟩) (i4.out.mono (λk b _=>⟨b.1,by omega⟩)) (by rw[List.length_map];exact h8.out.mono (λk b _=>⟨by omega,by omega⟩)) h3.out (by
    rcases kn.out with S|S
    ·exact .inl S
    ·exact .inr (by rw[S];simp)) db gr kg.out (λk b=>by
    obtain⟨ba,b9,kl⟩:=la.out k b;exact⟨ba,by omega,kl⟩) (by rw[<-gx]at hH;exact hH.out)
   have k5:=zD gf;clear gf
   go_roundw
   case rel=>exact⟨t+1,_,_,_,by omega,by go_num,k5.out⟩
   case measure=>simp[Lib.intOf];omega
  ·obtain rfl:t=an:=by omega
   obtain⟨db,gr,ac,a4,bb⟩:=G.row;have ka:ad.length=t:=by rw[f1.out,List.length_map,d0]
   rw[zR (by omega)]at a4;have ks:=cz ac;subst ks;have hT:=G.hd;have e5:=G.far.heap i0.out (by have:=L.out;omega);obtain⟨M,H,_⟩:=bO hT;obtain⟨eg,e4,i9,h0⟩:=bO e5;obtain⟨hV,e8⟩:=wZ e5 (.int I 0) (Y F u E);have bn:yc wr (λk=>b6.heap.size<=k) ad (Y F u E):=⟨db,by rw[ka];exact az ac,xX.mono (λk b _=>(bb k b).1) _ _ a4⟩;have a0:=(bn.far e8 (λk b _ e=>by omega)).mono (G':=New w) (λk b _=>by have:=c9.out.size;show w.heap.size<=k;omega);have hy:Below w.heap.size w ((wr.setCell ⟨q+1,0,O⟩ (.int I 0)).setCell ⟨q+1,1,O⟩ (Y F u E)):=(c9.out.trans (G.far.to_below c9.out.size (λi T e=>by have:=L.out;omega))).trans (e8.to_below (by have:=c9.out.size;have:=G.far.size;omega) (λi T e=>by have:=L.out;omega));have k4:¬(u:Int) < (u:Int):=by omega
   obtain⟨k3,lb,lc⟩:=zx3 a0 hy hV;clear ac a4 bb hT e5 hV e8 bn a0 hy G
   go_wp2_with fail
   exact bodyPost_ret (fA results59 _ (q+1) _ _ _ lc.out rfl) rfl ⟨⟨_,rfl,k3.out⟩,lb.out⟩
end
theorem il(g:List Tp.Nd)(v:Value)(s:NS)(w:World)(i:yc w s g v)(S:∀k,s k->k < w.heap.size)(H:Glob w)(z:yt g)(D:yR g)(G:Tp.tidy 0 g=W g):
 Calls π 91 #[γ #[V I 0,v]] w λe w'=>e=ρ (β true)/\Below w.heap.size w w':=by
 have c:Below w.heap.size w (w.alloc (J #[V I 0,v] 54)):=(ζ _ w).alloc (η _) _;have y:=ng 0 g g v s _ (i.below c) (λk R=>zK (S k R) c.size) (H.step c) z D G;have f:=af w (J #[V I 0,v] 54);obtain⟨q,u⟩:∃q,w.heap.size=q:=⟨_,rfl⟩;rw[u]at f;obtain⟨X,T,_⟩:=bO f;obtain⟨a,N,rfl,_⟩:=i.form;obtain⟨P,n,C,A,a1⟩:=zx5 y c i f u;clear y c i f H z D G
 go_enter func91,ntmps91
 go_upto_region 1 with (fail)
 generalize (w.alloc (J #[V I 0,Y a g.length N] 54))=ac at *;clear u
 go_wp2_with fail
 refine P.out.mono ?_;rintro e b ⟨⟨al,rfl,o⟩,r⟩;obtain⟨d,j,rfl,_⟩:=o.form;have x:=(r.block _ (lt_of_heap A.out)).trans A.out;have p:=n.out.trans (r.mono n.out.size);have t:Below w.heap.size w (b.alloc (J #[V I 0,Y d g.length j] 54)):=p.alloc p.size _;have l:Far xO b (b.alloc (J #[V I 0,Y d g.length j] 54)):=(ξ _ b).alloc _;have E:=tg 0 g (Y a g.length N) (Y d g.length j) (λ_=>True) _ ((C.out.below t).mono (λ_ _ _=>trivial)) ((o.far l (λ_ _ _ e=>e)).mono (λ_ _ _=>trivial));have M:=l.heap x id;obtain⟨ad,av,_⟩:=bO M;obtain⟨ao,an,_⟩:=bO (af b (J #[V I 0,Y d g.length j] 54));obtain⟨F,m⟩:=zx2 E t;clear o r x p t l E M P n C X T
 go_wp2_with fail
 refine F.out.mono ?_;rintro e a0 ⟨rfl,L⟩;have ab:=m.out.trans (L.to_below m.out.size (λ_ _ e=>e));clear L F m
 go_wp2_with fail
 go_ret
 exact⟨rfl,ab⟩
section
attribute [local go_sem] ak
structure zd(w:World)(cb nb:Nat)(v:Value)(ns:List Nat):Prop where
 blk:w.heap[cb]? =W (J #[V I 0,v,Y (W ⟨nb,0,O⟩) ns.length ns.length] 337 (0,0))
 num:PR w nb (xP ns)
 ne:nb≠cb
theorem zd.far{D:NS}{w w':World}{a c:Nat}{v:Value}{e:List Nat}(b:zd w a c v e)(d:Far D w w')(g:¬D a)(f:¬D c):zd w' a c v e:=⟨d.heap b.blk g,b.num.far d f,b.ne⟩
theorem fP(a:Nat)(q:a<=1000000)(w:World):∃c,(Instr.makeSlice 122 (V I (a:Int)) (V I (a:Int))).run π w=.ok (Y (W ⟨w.heap.size,0,O⟩) a a) c/\PR c w.heap.size (xP (List.replicate a 0))/\Below w.heap.size w c:=by
 obtain⟨g,m,l,n,f⟩:=info_parts gI;obtain⟨p,k,j,o⟩:=run_make_full (P:=π) w w.heap.size 122 3 g _ 1 underlying122 m l n I I a (by rw[f];omega) (by unfold maxLen;omega) (η _);have d:=bK j;have e:(madeCells (Value.int I 0).cells (a * 1)).toList=xP (List.replicate a 0):=by
  apply List.ext_getElem?
  intro i;rw[Array.getElem?_toList];unfold xP;rw[List.getElem?_map,List.getElem?_replicate];by_cases b:i < a
  ·rw[if_pos b]
   simp[madeCells,b,Nat.mod_one,Value.cells]
  ·rw[if_neg b]
   simp[madeCells,b]
 rw[e]at d;exact⟨p,k,d,(ζ _ w).grown o (η _) (λ_ e=>by cases e)⟩
theorem lH(g:List Tp.Nd)(v:Value)(C:NS)(w:World)(x:yc w C g v)(ao:∀k,C k->k < w.heap.size)(X:Glob w)(H:yt g)(u:yR g)(S:Tp.tidy 0 g=W g):
 Calls π 127 #[γ #[V I 0,v]] w λe w'=>(∃t M,e=ρ (.tuple #[Z (W ⟨t,0,O⟩),V I 0])/\zd w' t M v (List.replicate g.length 0)/\w.heap.size<=t/\w.heap.size<=M)/\Below w.heap.size w w':=by
 have f:Below w.heap.size w (w.alloc (J #[V I 0,v] 54)):=(ζ _ w).alloc (η _) _;have r:=il g v C _ (x.below f) (λk an=>zK (ao k an) f.size) (X.step f) H u S;have j:=af w (J #[V I 0,v] 54);obtain⟨q,D⟩:∃q,w.heap.size=q:=⟨_,rfl⟩;rw[D]at j;obtain⟨ab,N,_⟩:=bO j;obtain⟨a,l,rfl,_⟩:=x.form;obtain⟨b,y⟩:∃b,g.length=b:=⟨_,rfl⟩;have a2:b<=200:=y ▸ u.2;rw[y]at r f j ab N ⊢;obtain⟨al,s,L,a6⟩:=zx4 r f j D;clear r f x j X H u S y
 go_enter func127,ntmps127
 go_upto_region 1 with (fail)
 generalize (w.alloc (J #[V I 0,Y a b l] 54))=a4 at *;clear D
 go_wp2_with fail
 refine al.out.mono ?_;rintro e c ⟨rfl,A⟩;have F:=(A.block _ (lt_of_heap L.out)).trans L.out;have T:=s.out.trans (A.mono s.out.size);obtain⟨m,o,_⟩:=bO F;obtain⟨d,a0,R,ad⟩:=fP b (by omega) c.drew;have ac:Far xO c d:=((ξ xO c).drew).below ad;obtain⟨z,i,n⟩:=zx3 R ac T;clear A F T al s ab N R ad ac
 go_wp2_with fail
 go_region_held3 (λG=>G.cell? ⟨q,0,O⟩=W (V I 0)/\G.cell? ⟨q,1,O⟩=W (Y a b l)) (first|exact⟨m,o⟩|exact⟨(i.out.at m id),(i.out.at o id)⟩|exact⟨((i.out.alloc _).at m id),((i.out.alloc _).at o id)⟩) (fail)
 have p:Far xO d (d.alloc (J #[V I 0,Y a b l,Y (W ⟨c.heap.size,0,O⟩) b b] 337)):=(ξ _ d).alloc _;have a3:c.heap.size < d.heap.size:=z.out.lt;have P:zd (d.alloc (J #[V I 0,Y a b l,Y (W ⟨c.heap.size,0,O⟩) b b] 337)) d.heap.size c.heap.size (Y a b l) (List.replicate b 0):=⟨by rw[List.length_replicate];exact af _ _,z.out.far p id,by omega⟩;have E:=n.out.trans ((i.out.trans p).to_below n.out.size (λ_ _ e=>e));have a5:=n.out.size;obtain⟨a1,av⟩:=zx2 P E;clear p P E a0 z i n m o
 go_wp2_with fail
 go_ret2
 exact⟨⟨_,_,rfl,a1.out,by omega,by omega⟩,av.out⟩
theorem pu(g:List Tp.Nd)(v:Value)(b9:NS)(F b L S q:Nat)(be:g.length=q)(er:q<=200)(ds:∀x∈g,(∀i∈x.kids,i < q)/\x.kids.length<=100000):∀(f i d:Nat) (n t:List Nat) (w:World),Tp.deepest g f i d n=W t->i < q->n.length=q->d+f<=5000->yc w b9 g v->(∀k,b9 k->k≠b)->zd w F b v n->w.heap[L]? =W (J #[Z (W ⟨F,0,O⟩)] 266 (0,0))->w.heap[S]? =W (J #[φ (.func 174) #[] #[Z (W ⟨L,0,O⟩),Z (W ⟨S,0,O⟩)]] 335 (0,0))->L≠b->S≠b->
 Calls π 174 #[V I (i:Int),V I (d:Int),Z (W ⟨L,0,O⟩),Z (W ⟨S,0,O⟩)] w λe w'=>(∃b8,e=ρ b8)/\t.length=q/\zd w' F b v t/\Far (·=b) w w':=by
 intro f;induction f using Nat.strongRecOn with
 |ind f ih=>
 intro i d n t w r fn bb e2 R N l X a2 ao a9;cases f with
 |zero=>simp[Tp.deepest]at r
 |succ f=>
 obtain⟨x,C⟩:∃x,g[i]? =W x:=⟨_,zE (by omega)⟩;obtain⟨m,P⟩:∃m,n[i]? =W m:=⟨_,zE (by omega)⟩;have ab:g.getD i ⟨0,Tp.Sc.null,[],[]⟩=x:=by rw[zY,C];rfl
 have al:n.getD i 0=m:=by rw[zY,P];rfl
 simp only[Tp.deepest]at r;rw[ab,al]at r;obtain⟨a,bx,rfl,_⟩:=R.form;obtain⟨cv,b5,cf,_⟩:=bv l.blk;have d4:=zF X 0 rfl;have dv:w.cell? ⟨b,i,O⟩=W (V I (m:Int)):=l.num.cell (by unfold xP;rw[List.getElem?_map,P];rfl);have cc:=l.num.frozen i;have fs:(0:Int)<=(i:Int):=by omega
 have es:(i:Int) < (q:Int):=by omega
 rw[be]at b5;rw[bb]at cf;by_cases a0:0 < m
 ·rw[if_pos a0]at r
  have e:n=t:=by simpa using r
  subst e;have d0:(0:Int) < (m:Int):=by omega
  have d1:=zD l;clear l R X a2 C P ih ab al r cc
  go_enter func174,ntmps174
  go_wp2_with fail
  exact bodyPost_ret (v:=.tuple #[]) (by simp[results,results174,go_sem]) rfl ⟨⟨_,rfl⟩,bb,d1.out,ξ _ _⟩
 ·rw[if_neg a0]at r
  have d0:¬(0:Int) < (m:Int):=by omega
  have c4:m=0:=by omega
  subst c4;have A:Far (·=b) w (w.setCell ⟨b,i,O⟩ (V I (d:Int))):=Far.setCell (D:=(·=b)) (ξ _ _) (p:=⟨b,i,O⟩) (λ_=>rfl) _;have a6:=aQ l.num i (V I (d:Int));have cb:(xP n).set i (V I (d:Int))=xP (n.set i d):=by unfold xP;rw[List.map_set]
  rw[cb]at a6;have ch:=A.heap l.blk (λe=>l.ne e.symm);have an:zd (w.setCell ⟨b,i,O⟩ (V I (d:Int))) F b (Y a g.length bx) (n.set i d):=⟨by rw[List.length_set];exact ch,a6,l.ne⟩;have ad:=R.far A (λk u _ e=>N k u e);have ac:=A.heap X ao;have b2:=A.heap a2 a9;obtain⟨kv,e8,T⟩:=ad.at C;obtain⟨c2,o,cap,e,f2,ei,e6,e7,e9,fz,ex⟩:=T.cells;injection e with e1 a4 e3;clear a4;subst e1 e3;obtain⟨fr,eg,rfl,_⟩:=T.kid.form;obtain⟨c3,c5,dp,db,da⟩:=zx5 an ad ac b2 A;have ca:=zD T.kid;obtain⟨bm,dr⟩:=ds x (zL C);have b0:(n.set i d).length=q:=by rw[List.length_set];exact bb
  obtain⟨ft,d5,d3,_⟩:=bv an.blk;rw[be]at d5;rw[b0]at d3;have fv:=zF ac 0 rfl;clear l R X a2 A a6 ch an ad ac b2 T cb ab al C P a0
  go_enter func174,ntmps174
  go_upto_region 2 with (fail)
  generalize (w.setCell ⟨b,i,O⟩ (V I (d:Int)))=d2 at *;clear cv b5 cf d4 dv cc
  go_wp2_with fail
  obtain⟨y,b6⟩:∃y,x.kids.length=y:=⟨_,rfl⟩;have b3:Tp.deepestL g f (d+1) x.kids (n.set i d)=W t:=r;obtain⟨dn,ct,cl⟩:=zx3 b3 ih bm;clear r b3 ih bm;rw[b6]at ca dr ⊢
  go_loopw [33] (λs wr=>∃(j:Nat) (m:List Nat) (E:Nat),j<=y/\E<=f/\s=V I (j:Int)/\Tp.deepestL g E (d+1) (x.kids.drop j) m=W t/\m.length=q/\zd wr F b (Y (W ⟨c2,o,O⟩) g.length bx) m/\Far (·=b) w wr/\Far (·=b) d2 wr) (λs _=>y - (Lib.intOf s).toNat)
  case atStart=>exact⟨0,_,f,z_ _,η _,rfl,dn.out,b0,c3.out,da.out,ξ _ _⟩
  case round=>
   obtain⟨j,m,E,fl,e5,rfl,c,c9,M,G,z⟩:=hrel;by_cases c0:j < y
   ·obtain⟨k,u⟩:∃k,x.kids[j]? =W k:=⟨_,zE (by rw[b6];exact c0)⟩
    rw[aE _ _ _ u]at c;cases E with
    |zero=>simp[Tp.deepestL]at c
    |succ f1=>
    simp only[Tp.deepestL]at c;cases H:Tp.deepest g f1 k (d+1) m with
    |none=>rw[H]at c;cases c
    |some m2=>
    rw[H]at c;simp only at c;have bk:=c5.out.far z (λk u _ e=>N k u e);have b4:=z.heap dp.out ao;have a3:=z.heap db.out a9;have bD:=ct.out f1 (by omega) k (d+1) m m2 wr H (cl.out k (zL u)) c9 (by omega) bk N M b4 a3 ao a9;obtain⟨fG,e4,f0,a4,dc,fR,ba⟩:=ca.out.nat u;injection a4 with e21 e22 e23;subst e21 e23
    replace ba:=z.at ba (λe=>N _ dc e)
    have cm:=zF a3 0 rfl;have c1:(j:Int) < (y:Int):=by omega
    have eq:(0:Int)<=(j:Int):=by omega
    have en:IntKind.i64.wrap ((d:Int)+1)=((d+1:Nat):Int):=by rw[show ((d+1:Nat):Int)=(d:Int)+1 by omega];exact zU _ (by omega)
    obtain⟨ck,df,bn,bw⟩:=zx4 bD c G z;clear bD c G z M bk b4 a3 u H
    go_wp2_with fail
    refine ck.out.mono ?_;rintro e e0 ⟨⟨b8,rfl⟩,d6,bR,av⟩;have bs:=bn.out.trans av;have b1:=bw.out.trans av;obtain⟨a1,a5,co⟩:=zx3 bR bs b1;clear bR bs b1 av ck bn bw ba cm
    go_wp2_with fail
    go_roundw
    case rel=>exact⟨j+1,m2,f1,by omega,by omega,by go_num,df.out,d6,a1.out,a5.out,co.out⟩
    case measure=>simp[Lib.intOf];omega
   ·obtain rfl:j=y:=by omega
    have c1:¬(j:Int) < (j:Int):=by omega
    rw[List.drop_of_length_le (by omega)]at c;have c6:m=t:=by
     cases E with
     |zero=>simp[Tp.deepestL]at c
     |succ f1=>simpa [Tp.deepestL]using c
    subst c6;obtain⟨a1,a5⟩:=zx2 M G;clear c M G z
    go_wp2_with fail
    go_end0
    exact⟨⟨_,rfl⟩,by rw[<-be];exact a1.out,a5.out⟩
end
section
attribute [local go_sem] ak
theorem sx{w w0:World}{d b:Nat}{v:Value}{a:List Nat}(c:zd w d b v a)(g:w0.heap.size<=b)(f:a.length<=maxLen):Row w (New w0) a.length (Y (W ⟨b,0,O⟩) a.length a.length) (xP a):=⟨_,b,0,a.length,rfl,⟨η _,f⟩,λ_=>g,λ_=>⟨rfl,c.num.lt,λi j e=>by rw[Nat.zero_add];exact c.num.cell e⟩⟩
theorem pt(g:List Tp.Nd)(v:Value)(y:NS)(z:List Nat)(w:World)(A:yc w y g v)(G:∀k,y k->k < w.heap.size)(al:Glob w)(av:yt g)(f:yR g)(a0:Tp.tidy 0 g=W g)(a9:Tp.deepest g 1000 0 1 (List.replicate g.length 0)=W z)(C:Tp.okGr 0 g=true):
 Calls π 126 #[γ #[V I 0,v]] w λe w'=>(∃a3,e=ρ (.tuple #[a3,V I 0])/\z.length=g.length/\Row w' (New w) g.length a3 (xP z))/\Below w.heap.size w w':=by
 have o:Below w.heap.size w (w.alloc (J #[V I 0,v] 54)):=(ζ _ w).alloc (η _) _;have ab:=lH g v y _ (A.below o) (λk E=>zK (G k E) o.size) (al.step o) av f a0;unfold Tp.okGr at C;simp only[zQ,decide_eq_true_eq,List.all_eq_true]at C;obtain⟨⟨_,b2⟩,a1⟩:=C;have bb:∀x∈g,(∀i∈x.kids,i < g.length)/\x.kids.length<=100000:=λx ad=>⟨fK _ x (a1 x ad),(f.1 x ad).2.2⟩;obtain⟨a,bx,rfl,_⟩:=A.form;have bD:=f.2;obtain⟨a6,N,be,bs⟩:=zx4 ab o A G;clear ab o A al av f a0 G a1
 go_enter func126,ntmps126
 go_wp2_with fail
 refine a6.out.mono ?_;rintro e d ⟨⟨c,l,rfl,P,ba,a2⟩,T⟩;have s:=N.out.trans (T.mono N.out.size);have ca:w.heap.size+1<=d.heap.size:=by have:=T.size;simpa using this
 have cl:w.heap.size<=c:=by simp at ba;omega
 have b4:w.heap.size<=l:=by simp at a2;omega
 have ck:=P.num.lt;obtain⟨b,X⟩:∃b,d.heap.size=b:=⟨_,rfl⟩;have p:Far xO d ((d.alloc (J #[Z (W ⟨c,0,O⟩)] 266)).alloc (J #[φ (.func 174) #[] #[Z (W ⟨b,0,O⟩),Z (W ⟨b+1,0,O⟩)]] 335)):=((ξ _ d).alloc _).alloc _;have F:((d.alloc (J #[Z (W ⟨c,0,O⟩)] 266)).alloc (J #[φ (.func 174) #[] #[Z (W ⟨b,0,O⟩),Z (W ⟨b+1,0,O⟩)]] 335)).heap[b]? =W (J #[Z (W ⟨c,0,O⟩)] 266 (0,0)):=by rw[<-X];exact aa _ (af d _)
 have M:((d.alloc (J #[Z (W ⟨c,0,O⟩)] 266)).alloc (J #[φ (.func 174) #[] #[Z (W ⟨b,0,O⟩),Z (W ⟨b+1,0,O⟩)]] 335)).heap[b+1]? =W (J #[φ (.func 174) #[] #[Z (W ⟨b,0,O⟩),Z (W ⟨b+1,0,O⟩)]] 335 (0,0)):=ah _ _ _ (by simp[X]);have ac:=(be.out.below s).far p (λ_ _ _ e=>e);have D:=P.far p id id;have ao:Below w.heap.size w ((d.alloc (J #[Z (W ⟨c,0,O⟩)] 266)).alloc (J #[φ (.func 174) #[] #[Z (W ⟨b,0,O⟩),Z (W ⟨b+1,0,O⟩)]] 335)):=s.trans (p.to_below s.size (λ_ _ e=>e));have bn:=λj (f:Far xO ((d.alloc (J #[Z (W ⟨c,0,O⟩)] 266)).alloc (J #[φ (.func 174) #[] #[Z (W ⟨b,0,O⟩),Z (W ⟨b+1,0,O⟩)]] 335)) j)=>pu g (Y a g.length bx) y c l b (b+1) g.length rfl bD bb 1000 0 1 _ z j a9 b2 (by simp) (by omega) (ac.far f (λ_ _ _ e=>e)) (λk E e=>by have:=bs.out k E;omega) (D.far f id id) (f.heap F id) (f.heap M id) (by omega) (by omega);obtain⟨a5,bR,b6,_⟩:=bv D.blk;have S:=zF F 0 rfl;have R:=zF M 0 rfl;obtain⟨bk,H,a4⟩:=zx3 bn ao F;clear bn ao p M ac D P T s a6 N be ba a2 a9 bb
 go_upto_region 6 with (fail)
 generalize ((d.alloc (J #[Z (W ⟨c,0,O⟩)] 266)).alloc (J #[φ (.func 174) #[] #[Z (W ⟨b,0,O⟩),Z (W ⟨b+1,0,O⟩)]] 335))=m at *;have b5:b≠l:=by omega
 have b9:l < b:=by omega
 clear X
 go_region_held3 (λj=>j.cell? ⟨b,0,O⟩=W (Z (W ⟨c,0,O⟩))/\j.cell? ⟨b+1,0,O⟩=W (φ (.func 174) #[] #[Z (W ⟨b,0,O⟩),Z (W ⟨b+1,0,O⟩)])/\j.cell? ⟨c,0,O⟩=W (V I 0)) (first|exact⟨S,R,a5⟩|exact⟨q.1,q.2.1,q.2.2⟩) (first|(go_at_call 174;refine(bk.out m.drew (ξ xO m).drew).mono ?_;rintro e r ⟨⟨cc,rfl⟩,t,u,n⟩;have q:r.cell? ⟨b,0,O⟩=W (Z (W ⟨c,0,O⟩))/\r.cell? ⟨b+1,0,O⟩=W (φ (.func 174) #[] #[Z (W ⟨b,0,O⟩),Z (W ⟨b+1,0,O⟩)])/\r.cell? ⟨c,0,O⟩=W (V I 0):=⟨n.at (show m.drew.cell? _=_ from S) (by omega),n.at (show m.drew.cell? _=_ from R) (by show ¬b+1=l;omega),(bv u.blk).1⟩))
 have bm:Below w.heap.size w r:=H.out.trans (((ξ (·=l) m).drew.trans n).to_below H.out.size (λi cb e=>by omega));have L:=sx (w0:=w) u b4 (by rw[t];unfold maxLen;omega);have an:=n.heap (show m.drew.heap[b]? =_ from a4.out) b5;obtain⟨b8,cf,bw,_⟩:=bv u.blk;have ch:=zF an 0 rfl;rw[t]at L bw;obtain⟨b1,b3,b0⟩:=zx3 L bm t;clear bm L an u n bk H a4 a5 bR b6 S R q t
 go_wp2_with fail
 go_ret2
 exact⟨⟨_,rfl,b0.out,b1.out⟩,b3.out⟩
end
section
attribute [local go_sem] ak
theorem vg(a:Nat)(w:World):Calls π 176 #[Z (W ⟨a,0,O⟩)] w λe w'=>e=ρ (φ (.func 218) #[] #[Z (W ⟨w.heap.size,0,O⟩)])/\w'=w.alloc (J #[Z (W ⟨a,0,O⟩)] 266):=by
 go_enter func176,ntmps176
 go_wp2
 go_ret
 exact⟨rfl,rfl⟩
theorem sf(args:Array Value)(w:World):(callFunc 218 args).run π w=.ok (.enter 218 args) w:=by kernel_rfl
def Ba(d:List Nat)(t:Nat)(b:Array Value)(c:NS)(_:World):Prop:=(∃(i:Int) (a:Nat),d[t]? =W a/\b=#[γ #[V I i,V I (a:Int)]])/\c=xO
theorem vI(g:List Tp.Nd)(i j b:Nat)(x:Tp.Nd)(d:g[i]? =W x)(a:x.kids[j]? =W b):(g.flatMap (·.kids))[((g.take i).flatMap (·.kids)).length+j]? =W b:=by
 have c:=aE g i x d;have e:g.flatMap (·.kids)=(g.take i).flatMap (·.kids)++(x.kids++(g.drop (i+1)).flatMap (·.kids)):=by
  conv=>lhs;rw[<-List.take_append_drop i g,c]
  simp
 rw[e,zV (by omega),Nat.add_sub_cancel_left,List.getElem?_append_left (zM.1 a).1];exact a
theorem rL(g:List Tp.Nd)(i:Nat)(x:Tp.Nd)(a:g[i]? =W x):((g.take (i+1)).flatMap (·.kids)).length=((g.take i).flatMap (·.kids)).length+x.kids.length:=by
 rw[zG,a];simp
theorem tB(g:List Tp.Nd)(v:Value)(t:NS)(u y:Nat)(an:Value)(w:World)(d:yc w t g v)(b0:∀k,t k->k < w.heap.size)(c:w.heap[u]? =W (.cells #[V I 0,v,an] 337 (0,0)))(f:w.heap[y]? =W (.cells #[Z (W ⟨u,0,O⟩)] 266 (0,0))):
 yQ π 218 #[Z (W ⟨y,0,O⟩)] 3 (g.flatMap (·.kids)).length (Ba (g.flatMap (·.kids))) xO (λk=>k=y\/k=u\/t k) False (λ_ _=>True) (λ_=>True) w:=by
 intro l J e4 bn P M ch hF0 ao cb eg bw d1;have ck:RowKit.Hid (∀k,t k->k < P.heap.size):=zD (λk D=>by have:=b0 k D;have:=M.size;omega)
 replace f:=(M.block _ (lt_of_heap f)).trans f
 replace c:=(M.block _ (lt_of_heap c)).trans c
 replace d:=d.below M
 obtain⟨base,bs⟩:∃c5,w.heap.size=c5:=⟨_,rfl⟩;rw[bs]at ao cb;have ca:∀k,bn k->k≠y/\k≠u/\¬t k:=λk b=>⟨λe=>(hF0 k b).2 (.inl e),λe=>(hF0 k b).2 (.inr (.inl e)),λe=>(hF0 k b).2 (.inr (.inr e))⟩;obtain⟨a,S,rfl,bx⟩:=d.form;have ei:g.length<=9223372036854775807:=bx;obtain⟨dv,df,cf⟩:=zx3 ao bw ca;have f5:=zF f 0 rfl;have c3:=zF c 1 rfl;obtain⟨q,ba⟩:∃q,g.length=q:=⟨_,rfl⟩;rw[ba]at ei c3 d c;obtain⟨d3,en,eq⟩:=zx3 f c d;have f9:=η P.heap.size;clear ao cb bw ca f c d hF0 M ch bs eg bx b0
 go_enter func218,ntmps218
 go_wp2_with fail
 go_step3
 go_wp2_with fail
 go_step3
 go_wp2_with fail
 go_loopw [13] (λs wr=>∃(i:Nat) (m:NS),s=V I (i:Int)/\i<=q/\yc wr t g (Y a q S)/\wr.heap[y]? =W (.cells #[Z (W ⟨u,0,O⟩)] 266 (0,0))/\wr.heap[u]? =W (.cells #[V I 0,Y a q S,an] 337 (0,0))/\J ((g.take i).flatMap (·.kids)).length m wr/\(∀k,m k->k≠y/\k≠u/\¬t k)/\P.heap.size<=wr.heap.size) (λs _=>q - (Lib.intOf s).toNat)
 case atStart=>exact⟨0,bn,rfl,z_ _,eq.out,d3.out,en.out,by simpa using d1,cf.out,η _⟩
 case round=>
  obtain⟨i,m,rfl,fz,d,f,c,r,A,f0⟩:=hrel;by_cases ds:i < q
  ·obtain⟨x,R⟩:∃x,g[i]? =W x:=⟨_,zE (by rw[ba];exact ds)⟩
   obtain⟨kv,f1,H⟩:=d.at R;rw[ba]at H;obtain⟨bm,o,cap,e,ge,e6,fG,fR,c9,f8,co⟩:=H.cells;injection e with e1 a4 e3;clear a4;subst e1 e3;have z:=H.kid;obtain⟨a2,a9,rfl,_⟩:=H.key.form;obtain⟨ad,N,rfl,d0⟩:=H.kid.form;have da:x.kids.length<=9223372036854775807:=d0;obtain⟨p,a3⟩:∃p,x.kids.length=p:=⟨_,rfl⟩;rw[a3]at z co da;obtain⟨L,es⟩:∃L,xR x.x.s=U L:=⟨_,rfl⟩;rw[es]at c9;have cm:(i:Int) < (q:Int):=by omega
   have f6:(0:Int)<=(i:Int):=by omega
   have C:Far xO wr (wr.alloc (.cells #[V I x.k,V I x.x.k,V I x.x.n,U L,Y a2 x.keys.length a9,Y ad p N] 185)):=(ξ _ wr).alloc _;obtain⟨e7,f3,gb,ft,e5,e9,_⟩:=pE (af wr (.cells #[V I x.k,V I x.x.k,V I x.x.n,U L,Y a2 x.keys.length a9,Y ad p N] 185));have b6:=dv.out _ m _ _ r (C.mono (λ_ _ e=>e.elim));have c4:=zD (d.far C (λ_ _ _ e=>e));have dn:=zD (C.heap f id);have c0:=zD (C.heap c id);obtain⟨b8,c1⟩:=zx2 b6 A;have cc:=zD (z.far C (λ_ _ _ e=>e));have e2:=C.size;have d2:=zD (vI g i);have er:=zD (rL g i x R);have e0:=zD R;obtain⟨T,av⟩:∃T,((g.take i).flatMap (·.kids)).length=T:=⟨_,rfl⟩;obtain⟨b5,b2⟩:=zx2 av a3;rw[av]at b8;clear d f c r A R b6 C H z av a3
   go_upto_region 3 with (fail)
   generalize (wr.alloc (.cells #[V I x.k,V I x.x.k,V I x.x.n,U L,Y a2 x.keys.length a9,Y ad p N] 185))=fs at *
   go_wp2_with fail
   go_loopw [21] (λs G=>∃(j:Nat) (m:NS),s=V I (j:Int)/\j<=p/\yc G t g (Y (W ⟨bm,o,O⟩) q S)/\G.heap[y]? =W (.cells #[Z (W ⟨u,0,O⟩)] 266 (0,0))/\G.heap[u]? =W (.cells #[V I 0,Y (W ⟨bm,o,O⟩) q S,an] 337 (0,0))/\Row G t p (Y ad p N) (xP x.kids)/\J (T+j) m G/\(∀k,m k->k≠y/\k≠u/\¬t k)/\P.heap.size<=G.heap.size) (λs _=>p - (Lib.intOf s).toNat)
   case atStart=>exact⟨0,m,rfl,z_ _,c4.out,dn.out,c0.out,cc.out,b8.out,c1.out,by omega⟩
   case round=>
    obtain⟨j,m,rfl,f2,d,f,c,z,r,A,cv⟩:=hrel;by_cases cl:j < p
    ·obtain⟨bD,a5⟩:∃k,x.kids[j]? =W k:=⟨_,zE (by rw[b2.out];exact cl)⟩
     obtain⟨ga,fn,gc,a4,_,_,f7⟩:=z.nat a5;injection a4 with e21 e22 e23;subst e21 e23;have X:=d2.out j bD x e0.out a5;rw[b5.out]at X;have be:=(zM.1 X).1;have ct:(j:Int) < (p:Int):=by omega
     have e8:(0:Int)<=(j:Int):=by omega
     have b4:=df.out (T+j) be m xO #[γ #[V I (i:Int),V I (bD:Int)]] _ r ⟨⟨_,_,X,rfl⟩,rfl⟩ (λk b=>b.elim);obtain⟨c2,a0,ac,ab,dc,F⟩:=zx6 b4 d f c z A;clear d f c z r A a5 X be b4
     go_upto_region 6 with (fail)
     refine(wpIn_wide (n:=4)).1 ?_;obtain⟨gd,f4,assign,body,fr,bb⟩:=c2.out;have d5:=zD bb;clear bb
     gi_wp2
     refine(d5.out).mono ?_;rintro e fv ⟨a6,⟨E,al⟩,(⟨rfl,b9⟩|⟨rfl,bk⟩)⟩
     ·have fl:=E.size
      have bR:∀k,a6 k->k≠y/\k≠u/\¬t k:=by
       intro k b;rcases al k b with b|b|b
       ·exact F.out k b
       ·exact b.elim
       ·exact⟨by have:=lt_of_heap ac.out;omega,by have:=lt_of_heap ab.out;omega,λD=>by have:=ck.out k D;omega⟩
      have d6:=zD (a0.out.far E (λk D _ b=>(F.out k b).2.2 D));have d4:=zD (E.heap ac.out (λb=>(F.out _ b).1 rfl));have db:=zD (E.heap ab.out (λb=>(F.out _ b).2.1 rfl));have dp:=zD (dc.out.far E (λk D _ b=>(F.out k b).2.2 D));obtain⟨ex,dr⟩:=zx2 b9 bR;clear b9 bR al E
      gi_wp2
      go_wp2_with fail
      go_roundw
      case rel=>exact⟨j+1,a6,rfl,by omega,d6.out,d4.out,db.out,dp.out,ex.out,dr.out,by omega⟩
      case measure=>simp[Lib.intOf];omega
     ·have c6:=zD bk
      clear bk E al
      gi_wp2
      go_wp2_with fail
      try rw[Exit.noGoto_normal]
      go_end0
      exact⟨⟨_,rfl⟩,.inr ⟨a6,c6.out⟩⟩
    ·obtain rfl:j=p:=by omega
     have ct:¬(j:Int) < (j:Int):=by omega
     have b3:((g.take (i+1)).flatMap (·.kids)).length=T+j:=by rw[er.out,b5.out,b2.out]
     rw[<-b3]at r;obtain⟨a1,a0,ac,ab,F⟩:=zx5 r d f c A;clear d f c z r A b3
     go_wp2_with fail
     go_roundw
     case rel=>exact⟨i+1,m,rfl,by omega,a0.out,ac.out,ab.out,a1.out,F.out,cv⟩
     case measure=>simp[Lib.intOf];omega
  ·obtain rfl:i=q:=by omega
   have cm:¬(i:Int) < (i:Int):=by omega
   rw[zR (by omega)]at r;have a1:=zD r;clear d f c r A
   go_wp2_with fail
   go_end0
   exact⟨⟨_,rfl⟩,.inl ⟨m,a1.out,trivial⟩⟩
end
section
attribute [local go_sem] ak
attribute [local go_sem] Oper.semAt_some
def zl(a:List Nat)(b t:Nat):List Nat:=(List.range b).map λi=>(a.take t).count i+(if i=0 then 1 else 0)
theorem bC(b:List Nat)(a t:Nat):(zl b a t).length=a:=by simp[zl]
theorem jt(b:List Nat)(a t i:Nat)(c:i < a):(zl b a t)[i]? =W ((b.take t).count i+(if i=0 then 1 else 0)):=by simp[zl,c]
theorem sB(d:List Nat)(a:Nat):zl d a 0=(List.replicate a 0).set 0 1:=by
 apply List.ext_getElem?
 intro i;by_cases c:i < a
 ·rw[jt d a 0 i c]
  by_cases b:i=0
  ·subst b;simp[c]
  ·rw[List.getElem?_set_ne (λe=>b e.symm),List.getElem?_replicate,if_pos c];simp[b]
 ·rw[List.getElem?_eq_none (by rw[bC];omega),List.getElem?_eq_none (by simp;omega)]
theorem sC(b:List Nat)(a t k:Nat)(e:b[t]? =W k)(f:k < a):zl b a (t+1)=(zl b a t).set k ((b.take t).count k+(if k=0 then 1 else 0)+1):=by
 apply List.ext_getElem?
 intro i;by_cases d:i < a
 ·rw[jt b a (t+1) i d,zG,e,List.count_append]
  by_cases c:k=i
  ·subst c
   rw[List.getElem?_set_self (by rw[bC];exact d)];simp
   omega
  ·rw[List.getElem?_set_ne c,jt b a t i d]
   simp[c]
 ·rw[List.getElem?_eq_none (by rw[bC];omega),List.getElem?_eq_none (by rw[List.length_set,bC];omega)]
structure UsI(w:World)(q cb nb N:Nat)(kf:List Nat)(v:Value)(t:Nat)(F:NS)(W:World):Prop where
 fr:F=(·=nb)
 le:t<=kf.length
 box:W.heap[q]? =some (J #[Z (some ⟨cb,0,O⟩)] 266 (0,0))
 ct:zd W cb nb v (zl kf N t)
 far:Far (·=nb) w W
theorem m7(g:List Tp.Nd)(v:Value)(av:NS)(f b:Nat)(w:World)(a1:yc w av g v)(cv:∀k,av k->k < w.heap.size/\k≠b)(cb:0 < g.length)(dp:g.length<=200)(a0:(g.flatMap (·.kids)).length<=100000000/\∀k∈g.flatMap (·.kids),k < g.length)(o:zd w f b v (List.replicate g.length 0)):
 Calls π 129 #[Z (W ⟨f,0,O⟩)] w λe w'=>e=ρ (Y (W ⟨b,0,O⟩) g.length g.length)/\zd w' f b v ((List.range g.length).map (Tp.uses g))/\Far (·=b) w w':=by
 have E:(List.range g.length).map (Tp.uses g)=zl (g.flatMap (·.kids)) g.length (g.flatMap (·.kids)).length:=by
  unfold zl Tp.uses;rw[List.take_length]
 obtain⟨r,b5⟩:∃k,g.flatMap (·.kids)=k:=⟨_,rfl⟩;rw[b5]at E a0;rw[E];obtain⟨a,M,rfl,_⟩:=a1.form;obtain⟨q,b3⟩:∃q,w.heap.size=q:=⟨_,rfl⟩;obtain⟨d,c9⟩:∃d,g.length=d:=⟨_,rfl⟩;have c4:=a1;rw[c9]at o a1 cb dp a0 ⊢;have dn:=lt_of_heap o.blk;have d6:=o.num.lt;have e1:w.cell? ⟨b,0,O⟩=W (V I 0):=o.num.cell (by unfold xP;rw[List.getElem?_map,List.getElem?_replicate,if_pos cb];rfl);have e0:=o.num.frozen 0;obtain⟨a9,bR,C,_⟩:=bv o.blk;rw[List.length_replicate]at C;have s:Far (·=b) w (w.setCell ⟨b,0,O⟩ (V I 1)):=Far.setCell (D:=(·=b)) (ξ _ _) (p:=⟨b,0,O⟩) (λ_=>rfl) _;have A:=aQ o.num 0 (V I 1);have R:(xP (List.replicate d 0)).set 0 (V I 1)=xP (zl r d 0):=by rw[sB];unfold xP;rw[List.map_set];rfl
 rw[R]at A;have ck:zd (w.setCell ⟨b,0,O⟩ (V I 1)) f b (Y a d M) (zl r d 0):=⟨by rw[bC];have:=s.heap o.blk (λe=>o.ne e.symm);rw[List.length_replicate]at this;exact this,A,o.ne⟩;have a3:Far xO (w.setCell ⟨b,0,O⟩ (V I 1)) ((w.setCell ⟨b,0,O⟩ (V I 1)).alloc (J #[Z (W ⟨f,0,O⟩)] 266)):=(ξ _ _).alloc _;have cc:=ck.far a3 id id;have c0:(w.setCell ⟨b,0,O⟩ (V I 1)).heap.size=q:=by simp[World.setCell,b3]
 have bn:=af (w.setCell ⟨b,0,O⟩ (V I 1)) (J #[Z (W ⟨f,0,O⟩)] 266);rw[c0]at bn;have c6:Far (·=b) w ((w.setCell ⟨b,0,O⟩ (V I 1)).alloc (J #[Z (W ⟨f,0,O⟩)] 266)):=s.step a3 (λ_ _ e=>e.elim);have L:((w.setCell ⟨b,0,O⟩ (V I 1)).alloc (J #[Z (W ⟨f,0,O⟩)] 266)).heap.size=q+1:=by simp[c0]
 rw[b3]at dn d6;have ct:=vg f;obtain⟨bk,b1,ba,ds,a6,ab⟩:=zx6 cc bn c6 c4 cv b3;obtain⟨cl,c2,eg⟩:=zx3 ct a0 b5;clear a1 o a3 ck s A R cc bn c6 c4 ct a0 E cv b5;refine callsIn_wide.1 (callsIn_of_wp_marks (n:=5) func129 rfl trivial (wpIn_wide.2 ?_));simp only[ntmps129,List.size_toArray,zO,List.length_nil,Nat.reduceAdd,Nat.reduceSub,Array.replicate_succ,Array.replicate_zero,List.push_toArray,List.append_toArray,List.nil_append,List.cons_append]
 go_upto_region 2 with (fail)
 generalize ((w.setCell ⟨b,0,O⟩ (V I 1)).alloc (J #[Z (W ⟨f,0,O⟩)] 266))=x at *;clear e1 e0 a9 bR C;have ac:=zF b1.out 0 rfl
 go_wp2_with fail
 refine(cl.out x).mono ?_;rintro e fR ⟨rfl,rfl⟩;rw[L];have P:Far xO x (x.alloc (J #[Z (W ⟨f,0,O⟩)] 266)):=(ξ _ x).alloc _;have cm:(x.alloc (J #[Z (W ⟨f,0,O⟩)] 266)).heap[q+1]? =W (J #[Z (W ⟨f,0,O⟩)] 266 (0,0)):=ah _ _ _ L.symm;have bw:∀k,av k->k < q:=λk z=>by have:=(a6.out k z).1;have:=ab.out;omega
 have a5:=(ds.out.far ba.out (λk z _ e=>(a6.out k z).2 e)).far P (λ_ _ _ e=>e);have bD:=bk.out.far P id id;have bs:=tB g (Y a d M) av f (q+1) _ _ (by rw[c9]at a5;exact a5) (λk z=>by have:=bw k z;simp[L];omega) bD.blk cm;rw[eg.out]at bs;have e3:RowKit.Hid (UsI w q f b d r (Y a d M) 0 (·=b) (x.alloc (J #[Z (W ⟨f,0,O⟩)] 266))):=zD ⟨rfl,z_ _,P.heap b1.out id,bD,ba.out.step P (λ_ _ e=>e.elim)⟩;have ca:(x.alloc (J #[Z (W ⟨f,0,O⟩)] 266)).heap.size=q+2:=by simp[L]
 obtain⟨d1,N,d5⟩:=zx3 bs ca bw;have a4:=bk.out.ne;clear P cm bw a5 bD bs ca bk b1 ba cl ac L;generalize (x.alloc (J #[Z (W ⟨f,0,O⟩)] 266))=eq at *
 go_wp2_with fail
 refine wpIn_wide.1 (aC (n:=5) (gf:=218) (lb:=#[Z (W ⟨q+1,0,O⟩)]) rfl (λargs wx=>sf args wx)
  d1.out (λk e=>e.elim) (λk e=>by have:=N.out;rcases e with rfl|rfl|e;omega;omega;have:=d5.out k e;omega) (λt v d0 m c=>by obtain⟨⟨_,_,_,rfl⟩,_⟩:=c;rfl)
  (UsI w q f b d r (Y a d M)) (λ_ _ _=>False) (·=b) (λk c=>?hF0) e3.out ?hI (λ_ _ _ _ c _=>c) (λ_ _ _ _=>trivial) (λ_ _ _ _=>trivial) ?round ?done (λ_ _ _ c=>c.elim))
 case hF0=>
  subst c;have:=N.out;exact⟨λe=>e,λe=>by rcases e with e|e|e;omega;exact a4 e;exact(a6.out _ e).2 rfl,by omega,by omega,λc=>c.elim⟩
 case hI=>
  rintro t b9 m er ⟨rfl,b4,co,dc,d4⟩ bx;have ad:∀i,i < q+2->¬y8 xO (·=b) eq.heap.size i:=λi en e=>by have:=N.out;rcases e.2 with c|c;exact c;omega
  exact⟨rfl,b4,bx.heap co (ad _ (by omega)),dc.far bx (ad _ (by omega)) (ad _ (by omega)),d4.step bx (λi en e=>absurd e (ad i (by have:=ab.out;omega)))⟩
 case round=>
  rintro t b9 d0 ft m K da dr ⟨rfl,d3,S,F,H⟩ ⟨⟨ch,j,b2,rfl⟩,rfl⟩ df cf u;have b0:=N.out;rw[b0]at dr;have c1:=c2.out.2 j (zL b2)
  gi_wp2
  refine u _ _ ((ξ _ m).alloc _) ?_;intro y al _ _;rw[b0]at al;have ex:¬q=q+2+1:=by omega
  have an:Far (·=q+2+1) m y:=((ξ xO m).alloc (J #[V I ch,V I (j:Int)] 344) |>.mono (λ_ _ e=>e.elim)).trans al;have bb:=an.heap S ex;have G:=F.far an (by omega) (by omega);have b6:=H.step an (λk z e=>by have:=ab.out;omega);have be:=al.heap (af m (J #[V I ch,V I (j:Int)] 344)) (by omega);obtain⟨p,c3⟩:∃p,m.heap.size=p:=⟨_,rfl⟩;rw[c3]at be ⊢;obtain⟨X,T⟩:∃X,(r.take t).count j+(if j=0 then 1 else 0)=X:=⟨_,rfl⟩;have fv:X<=100000001:=by
   have b4:=List.count_le_length (a:=j) (l:=r.take t);have co:=c2.out.1;rw[List.length_take]at b4;rw[<-T];split<;>omega
  have es:y.cell? ⟨b,j,O⟩=W (V I (X:Int)):=G.num.cell (by unfold xP;rw[List.getElem?_map,jt r d t j c1,T];rfl);have fn:=G.num.frozen j;have ac:=zF bb 0 rfl;obtain⟨a9,bR,C,_⟩:=bv G.blk;rw[bC]at C;obtain⟨fs,dv,_⟩:=bO be;have fz:(0:Int)<=(j:Int):=by omega
  have e7:(j:Int) < (d:Int):=by omega
  have bm:=sC r d t j b2 c1;rw[T]at bm;have s:Far (·=b) y (y.setCell ⟨b,j,O⟩ (V I ((X:Int)+1))):=Far.setCell (D:=(·=b)) (ξ _ _) (p:=⟨b,j,O⟩) (λ_=>rfl) _;have A:=aQ G.num j (V I ((X:Int)+1));have R:(xP (zl r d t)).set j (V I ((X:Int)+1))=xP (zl r d (t+1)):=by rw[bm];unfold xP;rw[List.map_set];rfl
  rw[R]at A;have E:UsI w q f b d r (Y a d M) (t+1) (·=b) (y.setCell ⟨b,j,O⟩ (V I ((X:Int)+1))):=⟨rfl,da,s.heap bb (by omega),⟨by rw[bC];have:=s.heap G.blk (λe=>a4 e.symm);rw[bC]at this;exact this,A,a4⟩,b6.step s (λ_ _ e=>e)⟩;obtain⟨ei,e2⟩:=zx2 E s;have e6:IntKind.i64.wrap ((X:Int)+1)=(X:Int)+1:=zU _ (by omega);clear S F H bb G b6 al u be b2 cf df bm s A R E an T c3;rw[b0]
  gi_wp2_with (fail)
  refine aN (λm=>m.cell? ⟨q,0,O⟩=W (Z (W ⟨f,0,O⟩))/\m.cell? ⟨f,2,O⟩=W (Y (W ⟨b,0,O⟩) d d)/\m.cell? ⟨p,1,O⟩=W (V I (j:Int))/\m.cell? ⟨b,j,O⟩=W (V I (X:Int))) [10] (by kernel_rfl) (by kernel_rfl) (λc=>by obtain⟨_,_,c⟩:=c;exact c) ?_;refine aJ (by kernel_rfl) (λ_ _ _ _ c=>c) ⟨ac,C,dv,es⟩ 1 [0,1,2,3,4,5,6,7,8,9] _ _ (by kernel_rfl) ?_;iterate 10 (refine ax (v:=?_) ?_ ?_;rotate_left;·(intro fl c5;(try dsimp only at c5);(try obtain⟨e9,e8,e5,fG⟩:=c5);go_simp;try with_reducible rfl);(try go_frame))
  refine xT.done ?_;try dsimp only
  refine aq [10] ?_;refine aj rfl (λK u=>?_) xQ.nil
  go_simp
  refine u.out _ _ (λc=>absurd (by simp) c) ?_;clear u K
  (try go_frame)
  refine aP (by kernel_rfl) ?_ _;have a2:Far xO (y.setCell ⟨b,j,O⟩ (V I ((X:Int)+1))) (y.setCell ⟨b,j,O⟩ (V I ((X:Int)+1))).drew:=(ξ _ _).drew;have ao:=ei.out;exact⟨_,⟨rfl,ao.le,a2.heap ao.box id,ao.ct.far a2 id id,ao.far.step a2 (λ_ _ e=>e.elim)⟩,e2.out.step a2 (λ_ _ e=>e.elim),λk c=>⟨.inl c,λc=>c.elim⟩⟩
 case done=>
  rintro b9 m ⟨rfl,d3,S,F,H⟩ _ u cf;rw[N.out]at u ⊢;have ac:=zF S 0 rfl;obtain⟨a9,bR,C,_⟩:=bv F.blk;rw[bC]at C;obtain⟨e4,db,d2⟩:=zx3 F H u;clear S F H u
  go_wp2_with fail
  refine au (q:=q+2) rfl d2.out ?_;intro er b8;have fr:=ab.out;refine⟨Y (W ⟨b,0,O⟩) d d,by simp[results,results129,go_sem],rfl,?_,db.out.step b8 (λk z e=>by omega)⟩;exact e4.out.far b8 (by omega) (by omega)
end
section
attribute [local go_sem] ak
theorem ku(w:World):Calls π 175 #[] w λe w'=>e=ρ (γ #[β false,β true,β true])/\Far xO w w':=by
 go_enter func175,ntmps175
 go_wp2_with fail
 exact bodyPost_ret (v:=γ #[β false,β true,β true]) (by
  have a:=af w (J #[β false,β true,β true] 338);have b:=run_loadVar_row (P:=π) _ w.heap.size 338 338 #[β false,β true,β true] (0,0) _ a underlying338 rfl (by kernel_rfl);have c:f175.results=#[ResultVar.cell 0 338]:=rfl;simp[results,c,asAddr,b,Sem.run_bind,Result.andThen]) rfl ⟨rfl,(ξ _ w).alloc _⟩
theorem wD(x:Tp.Nd)(n:Nat)(a:Tp.okNd n x=true):0<=x.k/\x.k<=2:=by
 unfold Tp.okNd at a;by_cases c:x.k=0
 ·omega
 ·by_cases b:x.k=1
  ·omega
  ·rw[if_neg c,if_neg b]at a
   simp only[zQ,beq_iff_eq]at a;omega
theorem ph(g:List Tp.Nd)(v:Value)(a9:NS)(ab ao i m:Nat)(al:List Nat)(x:Tp.Nd)(w:World)(ac:yc w a9 g v)(F:g[i]? =W x)(H:zd w ab ao v al)(bR:0<=x.k/\x.k<=2):
 Calls π 128 #[Z (W ⟨ab,0,O⟩),V I (i:Int),V I (m:Int)] w λe w'=>e=ρ (β ((x.k==1||x.k==2)&&!x.kids.isEmpty&&decide (1 < m)))/\Far xO w w':=by
 obtain⟨kv,b1,c⟩:=ac.at F;obtain⟨bD,o,cap,rfl,b9,ba,a5,av,c3,c4,c5⟩:=c.cells;have b8:=c.lt;obtain⟨u,C,rfl,_⟩:=c.key.form;obtain⟨z,l,rfl,_⟩:=c.kid.form;obtain⟨b,ad⟩:∃b,xR x.x.s=U b:=⟨_,rfl⟩;rw[ad]at c3;obtain⟨a0,a6,bb,_⟩:=bv H.blk;have b5:(0:Int)<=(i:Int):=by omega
 have bw:(i:Int) < (g.length:Int):=by omega
 have R:x.kids.isEmpty=decide (x.kids.length=0):=by cases x.kids<;>simp
 rw[R];generalize x.k=K at *;generalize x.x.k=s at *;generalize x.x.n=t at *;generalize x.keys.length=p at *;generalize x.kids.length=d at *;generalize g.length=b3 at *;clear ac F H c ad R;obtain⟨q,T⟩:∃q,w.heap.size=q:=⟨_,rfl⟩;have f:=af w (J #[V I K,V I s,V I t,U b,Y u p C,Y z d l] 185);have D:Far xO w (w.alloc (J #[V I K,V I s,V I t,U b,Y u p C,Y z d l] 185)):=(ξ _ w).alloc _;rw[T]at f;obtain⟨n,a2,bk,an,bm,a3,_⟩:=pE f;obtain⟨X,L⟩:=zx2 f D;clear f D;have be:K=0\/K=1\/K=2:=by omega
 have S:∀a,(Instr.index 338 (γ #[β false,β true,β true]) (V I K)).run π a=.ok (β (K==1||K==2)) a:=by
  intro a;rcases be with rfl|rfl|rfl<;>kernel_rfl
 obtain⟨r,M⟩:∃r,(K==1||K==2)=r:=⟨_,rfl⟩;rw[M]at S ⊢;clear M
 go_enter func128,ntmps128
 go_upto_region 2 with (fail)
 generalize (w.alloc (J #[V I K,V I s,V I t,U b,Y u p C,Y z d l] 185))=y at *;clear T a0 a6 bb ba a5 av c3 c4 c5
 go_region_held3 (λa=>a.cell? ⟨q,0,O⟩=W (V I K)) (first|exact n|exact E) (first|(go_at_call 175;refine(ku _).mono ?_;rintro e a4 ⟨rfl,j⟩;have E:a4.cell? ⟨q,0,O⟩=W (V I K):=j.at (show y.drew.cell? _=_ from n) id))
 have G:=j.heap (show y.drew.heap[q]? =_ from X.out) id;obtain⟨bs,b4,bn,b2,bx,b0,_⟩:=pE G;have N:=L.out.trans ((ξ xO y).drew.trans j);have k:=zD N;clear G N j X L n a2 bk an bm a3 E S;cases r with
 |false=>
  go_wp2_with fail
  go_ret
  exact⟨rfl,k.out⟩
 |true=>
  by_cases A:d=0
  ·subst A
   go_wp2_with fail
   go_ret
   exact⟨rfl,k.out⟩
  ·have b6:¬(d:Int)=0:=by omega
   by_cases P:1 < m
   ·have a1:1 < (m:Int):=by omega
    go_wp2_with fail
    go_ret
    exact⟨by simp[A,P],k.out⟩
   ·have a1:¬1 < (m:Int):=by omega
    go_wp2_with fail
    go_ret
    exact⟨by simp[A,P],k.out⟩
end
section
attribute [local go_sem] ak
theorem len196(a:World)(b:Nat)(c:Array MapEntry)(f:Nat)(d:a.heap[b]? =W (.map c f))(e:TypeId):(Builtin.len_ #[196] e #[.map (W b)]).run π a=.ok (V I (c.size:Int)) a:=by
 simp[Builtin.len_,run_underlying underlying196,MapKept.run_getObj_map d,goInt,Result.andThen]
theorem xW.len196{a:World}{b:Nat}{d:List (Value × Value)}(e:xW π 3 a b d):∀c,(Builtin.len_ #[196] c #[.map (W b)]).run π a=.ok (.int I (d.length:Int)) a:=by
 obtain⟨⟨f,i,g,rfl⟩,_⟩:=e;intro c;rw[Go.Proofs.YtbikgdhbiebhcaaGreatDoor.len196 a b f i g c];simp
theorem jk(g:List Tp.Nd)(b:yR g)(a:Tp.okGr 0 g=true):(g.flatMap (·.kids)).length<=100000000/\∀k∈g.flatMap (·.kids),k < g.length:=by
 unfold Tp.okGr at a;simp only[zQ,decide_eq_true_eq,List.all_eq_true]at a;obtain⟨⟨_,n⟩,e⟩:=a;constructor
 ·have:∀l:List Tp.Nd,(∀x∈l,yx x)->(l.flatMap (·.kids)).length<=l.length * 100000:=by
   intro l;induction l with
   |nil=>intro _;simp
   |cons x r ih=>
    intro c;have p:=ih (λd i=>c d (by simp[i]));have o:=(c x (by simp)).2.2;rw[List.flatMap_cons,zP,zO];omega
  have:=this g b.1;have:=b.2;omega
 ·intro k f
  obtain⟨x,m,j⟩:=List.mem_flatMap.1 f;exact fK _ x (e x m) k j
theorem pL(g:List Tp.Nd)(v:Value)(p:NS)(w:World)(n:yc w p g v)(j:∀k,p k->k < w.heap.size)(H:Glob w)(u:yt g)(m:yR g)(E:Tp.tidy 0 g=some g)(d:Tp.okGr 0 g=true):
 Calls π 130 #[γ #[V I 0,v]] w λe w'=>(∃s,e=ρ (.tuple #[s,V I 0])/\Row w' (New w) g.length s (xP ((List.range g.length).map (Tp.uses g))))/\Below w.heap.size w w':=by
 have c:Below w.heap.size w (w.alloc (J #[V I 0,v] 54)):=(ζ _ w).alloc (η _) _;have t:=lH g v p _ (n.below c) (λk f=>zK (j k f) c.size) (H.step c) u m E;have S:=jk g m d;have ad:0 < g.length:=by
  unfold Tp.okGr at d;simp only[zQ,decide_eq_true_eq]at d;exact d.1.2
 have D:=λl b W (x:Below w.heap.size w W) (av:w.heap.size<=b) (an:zd W l b v (List.replicate g.length 0))=>m7 g v p l b W (n.below x) (λk f=>⟨zK (j k f) x.size,by have:=j k f;omega⟩) ad m.2 S an;obtain⟨a,a1,rfl,al⟩:=n.form;obtain⟨T,q,G⟩:=zx3 t c D;clear t c n H u m E j D S d
 go_enter func130,ntmps130
 go_wp2_with fail
 refine T.out.mono ?_;rintro e ao ⟨⟨l,b,rfl,y,X,N⟩,P⟩;have F:=q.out.trans (P.mono q.out.size);have M:w.heap.size<=b:=by simp at N;omega
 obtain⟨A,o⟩:=zx2 y F;clear P F y T q N X
 go_wp2_with fail
 refine(G.out l b _ o.out M A.out).mono ?_;rintro e a2 ⟨rfl,C,L⟩;have R:=o.out.trans (L.to_below o.out.size (λi a0 e=>by omega));have z:((List.range g.length).map (Tp.uses g)).length=g.length:=by simp
 have r:=sx (w0:=w) C M (by rw[z];exact al);rw[z]at r;obtain⟨ab,ac⟩:=zx2 r R;clear r R L C G o A
 go_wp2_with fail
 go_ret2
 exact⟨⟨_,rfl,ab.out⟩,ac.out⟩
def yo(l:List Nat):List (Value × Value):=l.map λi:Nat=>(.int I (i:Int),.bool true)
theorem eZ(l:List Nat)(p:Value × Value)(a:p∈yo l):∃i,i∈l/\p.1=.int I (i:Int):=by
 obtain⟨i,b,rfl⟩:=List.mem_map.1 a;exact⟨i,b,rfl⟩
theorem eG(a b:List Nat):xP (a++b)=xP a++xP b:=by simp[xP]
theorem mZ(g:List Tp.Nd)(v:Value)(an:NS)(w:World)(av:yc w an g v)(al:∀k,an k->k < w.heap.size)(c5:Glob w)(dc:yt g)(X:yR g)(d1:Tp.tidy 0 g=some g)(q:Tp.okGr 0 g=true):
 Calls π 93 #[γ #[.int I 0,v]] w λe w'=>(∃d5,e=ρ (.tuple #[d5,.int I 0])/\Row w' (New w) g.length d5 (xP ((List.range g.length).map (Tp.anchor g))))/\Below w.heap.size w w':=by
 obtain⟨d2,o,db,e3,eg⟩:=info_parts gI;have ab:Below w.heap.size w (w.alloc (J #[.int I 0,v] 54)):=(ζ _ w).alloc (η _) _;have c0:=lH g v an _ (av.below ab) (λk n=>zK (al k n) ab.size) (c5.step ab) dc X d1;have eq:=jk g X q;have c1:∀x∈g,0<=x.k/\x.k<=2:=by
  unfold Tp.okGr at q;simp only[zQ,decide_eq_true_eq,List.all_eq_true]at q;exact λx F=>wD x _ (q.2 x F)
 have c4:0 < g.length:=by
  unfold Tp.okGr at q;simp only[zQ,decide_eq_true_eq]at q;exact q.1.2
 have en:=λC d W (e1:Below w.heap.size w W) (hc:w.heap.size<=d) (f0:zd W C d v (List.replicate g.length 0))=>m7 g v an C d W (av.below e1) (λk n=>⟨zK (al k n) e1.size,by have:=al k n;omega⟩) c4 X.2 eq f0;have f1:=X.2;obtain⟨a,fR,rfl,d0⟩:=av.form;obtain⟨ch,be,cm,cl,fs,fz⟩:=zx6 c0 ab en av c1 al;clear c0 ab av c5 dc X d1 al en eq q c1;obtain⟨c,ct⟩:∃c,g.length=c:=⟨_,rfl⟩;have ge:=zD ct;rw[ct]at ch be cm cl c4 f1 d0 ⊢;clear ct;have g2:=@run_makeMap π
 go_enter func93,ntmps93
 go_wp2_with fail
 refine ch.out.mono ?_;rintro e N ⟨⟨C,d,rfl,bm,er,d3⟩,fr⟩;have a5:=be.out.trans (fr.mono be.out.size);have fn:w.heap.size<=d:=by simp at d3;omega
 have hg:w.heap.size<=C:=by simp at er;omega
 have g6:=lt_of_heap bm.blk;have g5:=bm.num.lt;have fl:Far xO N (N.alloc (.map #[] 0)):=(ξ _ N).alloc _;have c6:=bm.far fl id id;have H:Below w.heap.size w (N.alloc (.map #[] 0)):=a5.alloc a5.size _;have ex:=aL (P:=π) (K:=3) N;obtain⟨e6,a6,bD⟩:=zx3 c6 H ex;have fG:=a5.size;clear fr a5 bm ch be d3 er fl c6 H ex
 go_wp2_with fail
 refine(cm.out C d _ a6.out fn e6.out).mono ?_;rintro e a0 ⟨rfl,b5,b8⟩;clear g2;have H:=a6.out.trans (b8.to_below a6.out.size (λi o e=>by omega));have bw:((List.range c).map (Tp.uses g)).length=c:=by simp
 have M:=sx (w0:=w) b5 fn (by rw[bw];exact d0);rw[bw]at M;have e5:=(cl.out.below H);obtain⟨L,e7⟩:∃f5,N.heap.size=f5:=⟨_,rfl⟩;rw[e7]at bD g6 g5 fG;have b4:=bD.out.far b8 (by show ¬L=d;omega);have ha:=b4.lt;obtain⟨ga,a9,f6,g0,gc⟩:=zx5 M H b5 b4 e5;clear M H b8 b5 cm a6 e6 b4 e5 bD cl bw
 go_wp2_with fail
 clear e7
 go_loopw [8,25] (λgx b2 wr=>∃(t:Nat) (s:Option Addr) (D E:Nat),gx=Y s D E/\t<=c/\b2=.int I (t:Int)/\wr.ownsRow a0.heap.size 3 1 (Y s D E) t (xP ((List.range t).map (Tp.anchor g)))/\xW π 3 wr L (yo ((List.range t).filter (Tp.isAnch g)))/\Far (·=L) a0 wr) (λ_ b2 _=>c - (Lib.intOf b2).toNat)
 case atStart=>exact⟨0,_,_,_,rfl,z_ _,rfl,World.ownsRow_nil _ _ _ _,g0.out,ξ _ _⟩
 case round=>
  obtain⟨t,s,D,E,rfl,hb,rfl,z,ba,A⟩:=hrel;by_cases da:t < c
  ·obtain⟨x,F⟩:∃x,g[t]? =some x:=⟨_,zE (by rw[ge.out];exact da)⟩
   have c3:=fs.out x (zL F);have f7:L≠d:=by omega
   have fv:L≠C:=by omega
   have b9:=f6.out.far A (λe=>fv e.symm) (λe=>f7 e.symm);have dn:=gc.out.far A (λk n _ e=>by have:=fz.out k n;omega);have e2:((List.range c).map (Tp.uses g))[t]? =some (Tp.uses g t):=by simp[da]
   have e0:wr.cell? ⟨d,t,O⟩=some (.int I (Tp.uses g t:Int)):=b9.num.cell (by unfold xP;rw[List.getElem?_map,e2];rfl);have u:=ph g (Y a c fR) an C d t (Tp.uses g t) _ x wr dn F b9 c3;have a1:Tp.isAnch g t=((x.k==1||x.k==2)&&!x.kids.isEmpty&&decide (1 < Tp.uses g t)):=by
    unfold Tp.isAnch;rw[zY,F];rfl
   rw[<-a1]at u;have f2:(t:Int) < (c:Int):=by omega
   have he:(0:Int)<=(t:Int):=by omega
   have b:((List.range (t+1)).filter (Tp.isAnch g))=((List.range t).filter (Tp.isAnch g))++(if Tp.isAnch g t then [t]else []):=by
    rw[List.range_succ,List.filter_append];congr 1
    clear a1 u;simp only[List.filter];cases Tp.isAnch g t<;>rfl
   have f4:((List.range t).filter (Tp.isAnch g)).length<=t:=by have:=List.length_filter_le (Tp.isAnch g) (List.range t);simpa using this
   have r:((List.range (t+1)).map (Tp.anchor g))=((List.range t).map (Tp.anchor g))++[Tp.anchor g t]:=by rw[List.range_succ,List.map_append];rfl
   have f:Tp.anchor g t=if Tp.isAnch g t then ((List.range t).filter (Tp.isAnch g)).length+(if Tp.isAnch g t then 1 else 0)else 0:=by
    unfold Tp.anchor;rw[b];clear a1 u b;cases Tp.isAnch g t<;>simp
   obtain⟨U,dp⟩:∃U,Tp.uses g t=U:=⟨_,rfl⟩;obtain⟨m,cc⟩:∃bx,(List.range t).filter (Tp.isAnch g)=bx:=⟨_,rfl⟩;obtain⟨ca,bn⟩:∃bx,(List.range t).map (Tp.anchor g)=bx:=⟨_,rfl⟩;have d4:∀i∈m,i < t:=by
    intro i o;rw[<-cc]at o
    simpa using (List.mem_filter.1 o).1
   have f8:ca.length=t:=by rw[<-bn];simp
   rw[dp]at e0 u;rw[cc]at b f4 ba f;rw[bn]at r z;obtain⟨b1,ds⟩:∃b1,Tp.isAnch g t=b1:=⟨_,rfl⟩;rw[ds]at u b f;have dv:=z.lt;have hf:=A.size;obtain⟨e8,d6,ei,df,T,e9⟩:=zx6 u z ba A dv b;obtain⟨es,c9,ft⟩:=zx3 r f d4;clear u z ba A dv b r f d4 b9 dn e2 F a1 cc bn ds dp c3 f8
   go_wp2_with fail
   refine e8.out.mono ?_;rintro e a2 ⟨rfl,G⟩;have bk:=ei.out.far G (λe=>e);have bb:=am d6.out G (λ_ _ e=>e);have a3:=df.out.step G (λ_ _ e=>e.elim);have g7:=G.size;clear e8 d6 ei df e0;cases b1 with
   |true=>
    obtain⟨ac,g8,c2,a4⟩:=bk.put bh underlying196 (.int I (t:Int)) (.bool true) (bW t (by omega)) (λp g4=>by
     obtain⟨i,o,gl⟩:=eZ _ _ g4;rw[gl];intro e;have:=ft.out i o;simp at e
     omega)
    have ck:xW π 3 ac L (yo (m++[t])):=by
     have:yo (m++[t])=yo m++[(.int I (t:Int),.bool true)]:=by simp[yo]
     rw[this];exact c2
    have gd:=ck.len196;have gr:(yo (m++[t])).length=m.length+1:=by simp[yo]
    rw[gr]at gd;have e4:=am bb a4 (λk e h=>by subst h;have:=T.out _ e;omega);have dr:=a3.step a4 (λ_ _ e=>e);have l:Far xO ac (ac.alloc (J #[.int I ((m.length:Int)+1)] 3)):=(ξ _ ac).alloc _;have R:=am e4 l (λ_ _ e=>e);have S:=ck.far l (λe=>e);have ad:=dr.step l (λ_ _ e=>e.elim);have hd:=a4.size;obtain⟨b0,bs,cf⟩:=zx3 R S ad;clear bk bb a3 G c2 ck e4 dr l R S ad a4
    go_wp2_with (at_builtin;refine wpList_append_own _ rfl (.tmp 36) (.tmp 39) 122 rfl a0.heap.size 3 d2 _ 1 8 underlying122 o db e3 eg rfl (by decide) (Y s D E) t _ rfl b0.out ⟨ac.heap.size,0,O⟩ 1 1 [.int I ((m.length:Int)+1)] rfl rfl (λj gk bR=>by rw[gK];exact(ae (af _ _) j).trans (by simpa using bR)) (by simp[Value.oneCell']) (by unfold maxLen;omega) (by omega) (by simp;omega) ?_;intro g1 w5 y co _)
    have ao:Far (λk=>(Value.slice s D E).ownBlock=some k) _ w5:=(ξ _ _).grown co (λk e _=>e);have cb:=bs.out.far ao (λe=>by have:=(T.out _ e).1;omega);have b3:=cf.out.step ao (λk n e=>by have:=(T.out _ e).1;omega);have f:=c9.out;have r:=es.out;have b:=e9.out;simp only[if_true,if_false,Bool.false_eq_true,List.append_nil]at f b;have b6:xP ((List.range (t+1)).map (Tp.anchor g))=xP ca++[.int I ((m.length:Int)+1)]:=by rw[r,f,eG];rfl
    rw[<-b6]at y;obtain⟨gg,cap,rfl,gf,_⟩:=aA y
    go_roundw
    case rel=>exact⟨t+1,_,_,_,rfl,by omega,by go_num,y,by rw[b];exact cb,b3⟩
    case measure=>simp[Lib.intOf];omega
   |false=>
    have l:Far xO a2 (a2.alloc (J #[.int I 0] 3)):=(ξ _ a2).alloc _;have R:=am bb l (λ_ _ e=>e);have S:=bk.far l (λe=>e);have ad:=a3.step l (λ_ _ e=>e.elim);obtain⟨b0,bs,cf⟩:=zx3 R S ad;clear bk bb a3 G l R S ad
    go_wp2_with (at_builtin;refine wpList_append_own _ rfl (.tmp 41) (.tmp 42) 122 rfl a0.heap.size 3 d2 _ 1 8 underlying122 o db e3 eg rfl (by decide) (Y s D E) t _ rfl b0.out ⟨a2.heap.size,0,O⟩ 1 1 [.int I 0] rfl rfl (λj gk bR=>by rw[gK];exact(ae (af _ _) j).trans (by simpa using bR)) (by simp[Value.oneCell']) (by unfold maxLen;omega) (by omega) (by simp;omega) ?_;intro g1 w5 y co _)
    have ao:Far (λk=>(Value.slice s D E).ownBlock=some k) _ w5:=(ξ _ _).grown co (λk e _=>e);have cb:=bs.out.far ao (λe=>by have:=(T.out _ e).1;omega);have b3:=cf.out.step ao (λk n e=>by have:=(T.out _ e).1;omega);have f:=c9.out;have r:=es.out;have b:=e9.out;simp only[if_true,if_false,Bool.false_eq_true,List.append_nil]at f b;have b6:xP ((List.range (t+1)).map (Tp.anchor g))=xP ca++[.int I 0]:=by rw[r,f,eG];rfl
    rw[<-b6]at y;obtain⟨gg,cap,rfl,gf,_⟩:=aA y
    go_roundw
    case rel=>exact⟨t+1,_,_,_,rfl,by omega,by go_num,y,by rw[b];exact cb,b3⟩
    case measure=>simp[Lib.intOf];omega
  ·obtain rfl:t=c:=by omega
   have f2:¬(t:Int) < (t:Int):=by omega
   have f3:=cz z;subst f3;have M:=az z;have gb:=zD (M.mono (G':=New w) (λk (n:a0.heap.size<=k) _=>(by have:=a9.out.size;show w.heap.size<=k;omega)));have g3:=zD (a9.out.trans (A.to_below a9.out.size (λi o e=>by omega)));clear z M A ba ga a9
   go_wp2_with fail
   go_ret2
   exact⟨⟨_,rfl,gb.out⟩,g3.out⟩
end
section
attribute [local go_sem] ak
theorem jD(s:ByteArray)(b:s.size<=1000000)(w:World):Calls π 384 #[U s] w λe w'=>e=ρ (U (⟨#[32]⟩++s))/\w'=w:=by
 have a:(⟨#[32]⟩++s).size<=maxLen:=by rw[zX];unfold maxLen;have:(⟨#[32]⟩:ByteArray).size=1:=rfl;omega
 go_enter func384,ntmps384
 go_wp2_with fail
 go_ret
 exact⟨rfl,rfl⟩
def zp(s:Tp.B):Value:=.iface 273 (xR s)
theorem mx(a i:Nat)(w:World):Calls π 178 #[Z (W ⟨a,0,O⟩),V I (i:Int)] w λe w'=>e=ρ (U ⟨#[91,93]⟩)/\w'=w:=by
 go_enter func178,ntmps178
 go_wp2
 go_ret
 exact⟨rfl,rfl⟩
theorem mN(a i:Nat)(w:World):Calls π 179 #[Z (W ⟨a,0,O⟩),V I (i:Int)] w λe w'=>e=ρ (U ⟨#[123,125]⟩)/\w'=w:=by
 go_enter func179,ntmps179
 go_wp2
 go_ret
 exact⟨rfl,rfl⟩
theorem iR(g:List Tp.Nd)(v t:Value)(u:NS)(j q i:Nat)(x:Tp.Nd)(w:World)(k:yc w u g v)(l:g[i]? =W x)(r:w.heap[j]? =W (J #[V I 0,v,t,.map (W q)] 198 (0,0)))(m:Glob w)(c:x8 x.x=true/\x.x.s.length<=1000):
 Calls π 177 #[Z (W ⟨j,0,O⟩),V I (i:Int)] w λe w'=>e=ρ (xR (Tp.scText x.x))/\Below w.heap.size w w':=by
 obtain⟨kv,A,d⟩:=k.at l;obtain⟨C,o,cap,rfl,S,F,G,H,c3,c4,c5⟩:=d.cells;have L:=d.lt;have a:=eb x.x c.2 c.1 w m;unfold scV at a;obtain⟨b,n⟩:∃b,xR x.x.s=U b:=⟨_,rfl⟩;obtain⟨T,f⟩:∃b,xR (Tp.scText x.x)=U b:=⟨_,rfl⟩;rw[n]at c3 a;rw[f]at a ⊢;obtain⟨R,E,D,N,_⟩:=pC r;have X:(0:Int)<=(i:Int):=by omega
 have y:(i:Int) < (g.length:Int):=by omega
 generalize x.x.k=M at *;generalize x.x.n=P at *;have s:=zD a;clear k l d n f a c m
 go_enter func177,ntmps177
 go_wp2_with fail
 refine s.out.mono ?_;rintro e z ⟨rfl,p⟩
 go_wp2_with fail
 go_ret
 exact⟨rfl,p⟩
theorem vR(w:World):(zeroValue 87).run π w=.ok .nilFunc w:=by kernel_rfl
theorem oc(g:List Tp.Nd)(v H:Value)(X:NS)(c P i:Nat)(x:Tp.Nd)(w:World)(z:yc w X g v)(u:g[i]? =W x)(m:w.heap[c]? =W (J #[.int I 0,v,H,.map (W P)] 198 (0,0)))(C:Glob w)(E:x8 x.x=true/\x.x.s.length<=1000)(b0:0<=x.k/\x.k<=2)(ac:x.kids=[]):
 Calls π 132 #[.pointer (W ⟨c,0,O⟩),.int I (i:Int)] w λe w'=>e=ρ (zp (Tp.nodeWord x))/\Below w.heap.size w w':=by
 have s:∃f T,(f,x.k)∈[((177:Nat),(0:Int)),(178,1),(179,2)]/\xR (Tp.nodeWord x)=.string T/\∀b,Below w.heap.size w b->Calls π f #[.pointer (W ⟨c,0,O⟩),.int I (i:Int)] b λe w'=>e=ρ (.string T)/\Below b.heap.size b w':=by
  have a4:x.k=0\/x.k=1\/x.k=2:=by omega
  rcases a4 with a|a|a
  ·refine⟨177,_,by simp[a],rfl,λb d=>?_⟩
   have:=iR g v H X c P i x b (z.below d) u ((d.block _ (lt_of_heap m)).trans m) (C.step d) E;refine this.mono ?_;rintro e t ⟨rfl,a6⟩;exact⟨by unfold Tp.nodeWord;rw[if_pos a];rfl,a6⟩
  ·refine⟨178,_,by simp[a],rfl,λb d=>?_⟩
   refine(mx c i b).mono ?_;rintro e t ⟨rfl,rfl⟩;exact⟨by unfold Tp.nodeWord;rw[if_neg (by omega),if_pos a],ζ _ _⟩
  ·refine⟨179,_,by simp[a],rfl,λb d=>?_⟩
   refine(mN c i b).mono ?_;rintro e t ⟨rfl,rfl⟩;exact⟨by unfold Tp.nodeWord;rw[if_neg (by omega),if_neg (by omega)],ζ _ _⟩
 obtain⟨f,T,j,F,s⟩:=s;have ck:=@run_makeMap π;have ab:xW π 3 (w.alloc (.map #[] 0)) w.heap.size []:=aL w;obtain⟨t,k,al,N⟩:=ab.put bh underlying345 (.int I 0) (φ (.func 177) #[.pointer (W ⟨c,0,O⟩)] #[]) (l:=.int I 0) (by kernel_rfl) (by simp);obtain⟨c0,R,M,D⟩:=al.put bh underlying345 (.int I 1) (φ (.func 178) #[.pointer (W ⟨c,0,O⟩)] #[]) (l:=.int I 1) (by kernel_rfl) (by simp);obtain⟨n,ao,A,av⟩:=M.put bh underlying345 (.int I 2) (φ (.func 179) #[.pointer (W ⟨c,0,O⟩)] #[]) (l:=.int I 2) (by kernel_rfl) (by simp);have L:Far (·=w.heap.size) w n:=((ξ (·=w.heap.size) w).alloc _).step (D':=(·=w.heap.size)) ((N.trans D).trans av) (λi a3 e=>e);have p:Below w.heap.size w n:=L.to_below (η _) (λi a3 e=>by omega);have bm:(Instr.lookup 345 (.map (W w.heap.size)) (.int I x.k) false).run π n=.ok (φ (.func f) #[.pointer (W ⟨c,0,O⟩)] #[]) n:=by
  have a1:=A.look_in bh underlying345 (vR _) (.int I x.k) (l:=.int I x.k) (Maps.keyOf_int_mk underlying3 (uO _ (by omega) (by omega))) false (φ (.func f) #[.pointer (W ⟨c,0,O⟩)] #[]) (by
   simp only[List.mem_cons,List.not_mem_nil,or_false,Prod.mk.injEq]at j;rcases j with ⟨rfl,a⟩|⟨rfl,a⟩|⟨rfl,a⟩<;>rw[a]<;>simp) (by
   intro q ad S;simp only[List.mem_cons,List.not_mem_nil,or_false,Prod.mk.injEq]at j;simp only[List.nil_append,List.cons_append,List.mem_cons,List.not_mem_nil,or_false]at ad;rcases j with ⟨rfl,a⟩|⟨rfl,a⟩|⟨rfl,a⟩<;>rw[a]at S<;>rcases ad with rfl|rfl|rfl<;>simp at S ⊢)
  simpa using a1
 obtain⟨kv,b6,r⟩:=z.at u;have G:=r.below p;obtain⟨bx,o,cap,rfl,cv,cf,b2,be,c3,c4,c5⟩:=r.cells;obtain⟨cm,b3,bD,a5,cb,bk,b1,a9,bw,b5,a2⟩:=G.cells;injection a5 with k R ao;injection k with k;injection k with k e4;clear R;subst k e4 ao;have ct:=r.lt;obtain⟨cc,ba,rfl,_⟩:=r.kid.form;obtain⟨bn,b9,cl,b4,_⟩:=pC m;obtain⟨ca,bR,c1,bb,_⟩:=pC ((p.block _ (lt_of_heap m)).trans m);rw[ac]at c5 a2;have ch:(0:Int)<=(i:Int):=by omega
 have bs:(i:Int) < (g.length:Int):=by omega
 unfold zp;rw[F];have an:=zD (s n p);have co:∀args b,(callFunc f args).run π b=.ok (.enter f args) b:=by
  intro args b;simp only[List.mem_cons,List.not_mem_nil,or_false,Prod.mk.injEq]at j;rcases j with ⟨rfl,a⟩|⟨rfl,a⟩|⟨rfl,a⟩<;>kernel_rfl
 clear j s;have y:=zD p;generalize g.length=b8 at *;generalize x.k=K at *;clear ab al M A N D av L p z u r G ac E C F m
 go_enter func132,ntmps132
 go_wp2_with fail
 refine an.out.mono ?_;rintro e t ⟨rfl,d⟩;have a0:=y.out.trans (d.mono y.out.size);clear an y d
 go_wp2_with fail
 go_ret
 exact⟨rfl,a0⟩
end
section
attribute [local go_sem] ak
end
section
attribute [local go_sem] ak
theorem fI{q:Nat}:∀(b:List Value) (o:Nat) (c:World) (a:List Value),PR c q a->o+b.length<=a.length->PR (c.setCells q o b) q (a.take o++b++a.drop (o+b.length)):=by
 intro b;induction b with
 |nil=>intro o c a d _;simpa [World.setCells]using d
 |cons u r ih=>
  intro o c a d f;have j:=ih (o+1) _ _ (aQ d o u) (by simp at f ⊢;omega);unfold World.setCells;have i:o < a.length:=by simp at f;omega
  have e:(a.set o u).take (o+1)++r++(a.set o u).drop (o+1+r.length)=a.take o++(u::r)++a.drop (o+(u::r).length):=by
   rw[List.take_set,List.drop_set_of_lt (by omega),zO,show o+(r.length+1)=o+1+r.length by omega];have:(a.take (o+1)).set o u=a.take o++[u]:=by
    have g:(a.take o).length=o:=by rw[List.length_take];omega
    rw[zG,zE i];show (a.take o++[a[o]]).set o u=_;rw[List.set_append_right _ _ (by omega),g,Nat.sub_self];rfl
   rw[this];simp
  rw[<-e];exact j
theorem eJ{q:Nat}:∀(b:List Value) (o:Nat) (a:World),Far (·=q) a (a.setCells q o b):=by
 intro b;induction b with
 |nil=>intro o a;exact ξ _ _
 |cons u r ih=>
  intro o a;unfold World.setCells;exact(Far.setCell (D:=(·=q)) (ξ _ _) (p:=⟨q,o,O⟩) (λ_=>rfl) _).trans (ih _ _)
theorem tV:(prog.info? 9).map (λi=>(i.zero,i.size,i.bytes))=W (W (U ⟨#[]⟩),1,16):=by kernel_rfl
theorem k7(c:World)(q o n cap m:Nat)(a:Addr)(f p:Nat)(e:ByteArray)(d:List Value)(y:m=Nat.min f n)(g:PR c q d)(s:o+m<=d.length)(v:∀j,j < m->c.cell? (a.add j)=W (U e)):
 ∃i,(Builtin.copy_ #[22,22] 3 #[Y (W ⟨q,o,O⟩) n cap,Y (W a) f p]).run π c=.ok (V I (m:Int)) i/\PR i q (d.take o++List.replicate m (U e)++d.drop (o+m))/\Far (·=q) c i:=by
 obtain⟨D,w,z,r,A⟩:=info_parts tV;have t:(prog.info? 9).map (·.size)=W 1:=by rw[w];simp[r]
 have l:=run_copy_cells (P:=π) c 22 22 3 9 q o n cap a f p (List.replicate m (U e)) underlying22 t (by simpa using y) (λj x b=>by
  rw[List.getElem?_replicate]at b;split at b
  ·injection b with b;subst b;exact v j (by assumption)
  ·cases b) (λj b=>by
   have C:j < m:=by simpa using b
   rw[g.cell (zE (by omega))];rfl) (λj b=>g.frozen _) (by intro x u;rw[List.eq_of_mem_replicate u];rfl)
 have k:=fI (List.replicate m (U e)) o c d g (by simpa using s);rw[List.length_replicate]at l k;exact⟨_,by rw[l];simp[goInt],k,eJ _ _ _⟩
theorem vd(d o S a:Nat)(c:ByteArray)(w:World)(b0:w.cell? ⟨d,o,O⟩=W (U c))(G:d < w.heap.size)(b3:0 < a)(ch:a<=1000000):
 Calls π 221 #[Y (W ⟨d,o,O⟩) 1 S,V I (a:Int)] w λe w'=>(∃ao,e=ρ ao/\Row w' (New w) a ao (List.replicate a (U c)))/\Below w.heap.size w w':=by
 obtain⟨bm,p,bk,bD,bw⟩:=info_parts tV;have z:=bits_Mul 1 a (by omega) (by omega) w;rw[Nat.one_mul,Nat.div_eq_of_lt (by omega),Nat.mod_eq_of_lt (by omega)]at z;obtain⟨E,ab,a0,R⟩:=run_make_full (P:=π) w w.heap.size 22 9 bm _ 1 underlying22 p bk bD I I a (by rw[bw];omega) (by unfold maxLen;omega) (η _);have r:Below w.heap.size w E:=(ζ _ w).grown R (η _) (λ_ e=>by cases e);have s:=bK a0;have M:((madeCells (Value.string ⟨#[]⟩).cells (a * 1)).toList).length=a:=by simp[madeCells,Value.cells]
 obtain⟨A,a6⟩:∃A,(madeCells (Value.string ⟨#[]⟩).cells (a * 1)).toList=A:=⟨_,rfl⟩;rw[a6]at s M;obtain⟨q,D⟩:∃q,w.heap.size=q:=⟨_,rfl⟩;rw[D]at s ab G r;have a4:E.cell? ⟨d,o,O⟩=W (U c):=(World.cell?_of_block (w:=w) (r.block d G)).trans b0;obtain⟨a2,a9,a1,ad⟩:=k7 E q 0 a a 1 ⟨d,o,O⟩ 1 S c A (by show 1=min 1 a;omega) s (by omega) (λj bb=>by obtain rfl:j=0:=(by omega);exact a4);have ac:Below q w a2:=r.trans (ad.to_below (by have:=r.size;omega) (λi p e=>by omega));have av:∃b,PR a2 q b/\b.length=a/\∀i,i < 1->b[i]? =W (U c):=⟨_,a1,by simp;omega,λi p=>by obtain rfl:i=0:=(by omega);rfl⟩;have H:Calls π 251 #[V .u64 1,V .u64 (a:Int)] w λe w'=>e=ρ (.tuple #[V .u64 0,V .u64 (a:Int)])/\w'=w:=z;obtain⟨t,u,y⟩:=zx3 H ac av;clear z H a0 R s a1 ad r ac av a6 M a4
 go_enter func221,ntmps221
 go_wp2_with fail
 refine t.out.mono ?_;rintro e ca ⟨rfl,ba⟩;obtain rfl:=ba.symm
 go_wp2_with fail
 clear a9 ab
 go_loopw [8] (λC wr=>∃n:Nat,0 < n/\n<=a/\C=V I (n:Int)/\(∃b,PR wr q b/\b.length=a/\∀i,i < n->b[i]? =W (U c))/\Below q w wr) (λC _=>a - (Lib.intOf C).toNat)
 case atStart=>exact⟨1,Nat.one_pos,by omega,rfl,y.out,u.out⟩
 case round=>
  obtain⟨n,b5,cf,rfl,⟨b,l,cb,k⟩,g⟩:=hrel;by_cases b4:n < a
  ·obtain⟨m,x⟩:∃m,Nat.min n (a - n)=m:=⟨_,rfl⟩
   have cc:m<=n/\m<=a - n/\0 < m:=by subst x;show min n (a - n)<=n/\min n (a - n)<=a - n/\0 < min n (a - n);omega
   have F:Far xO wr wr.drew:=(ξ _ wr).drew;have v:=l.far F id;obtain⟨N,b6,L,X⟩:=k7 wr.drew q n (a - n) (a - n) m ⟨q,0,O⟩ n a c b x.symm v (by omega) (λj bb=>by rw[gK];exact v.cell (k j (by omega)));have an:Below q w N:=g.trans ((F.mono (D':=(·=q)) (λ_ _ e=>e.elim)).trans X |>.to_below (by have:=g.size;omega) (λi p e=>by omega));have a5:∃b,PR N q b/\b.length=a/\∀i,i < n+m->b[i]? =W (U c):=by
    refine⟨_,L,by simp;omega,λi p=>?_⟩;by_cases h:i < n
    ·rw[List.append_assoc,List.getElem?_append_left (by simp;omega),List.getElem?_take_of_lt h]
     exact k i h
    ·rw[List.append_assoc,zV (by simp;omega),List.getElem?_append_left (by simp;omega),List.getElem?_replicate,if_pos (by simp;omega)]
   have be:(n:Int) < (a:Int):=by omega
   have b9:(0:Int)<=(n:Int):=by omega
   have b1:(n:Int)<=(a:Int):=by omega
   have b2:IntKind.i64.wrap ((n:Int)+(m:Int))=(n:Int)+(m:Int):=zU _ (by omega);obtain⟨bs,bn⟩:=zx2 a5 an;clear l k v L X an a5 F g t y u x
   go_wp2_with fail
   go_region
   go_wp2_with fail
   go_roundw
   case rel=>exact⟨n+m,by omega,by omega,by go_num,bs.out,bn.out⟩
   case measure=>simp[Lib.intOf];omega
  ·obtain rfl:n=a:=by omega
   have be:¬(n:Int) < (n:Int):=by omega
   have a3:Row wr (New w) n (Y (W ⟨q,0,O⟩) n n) (List.replicate n (U c)):=⟨_,q,0,n,rfl,⟨η _,by unfold maxLen;omega⟩,λ_=>(by show w.heap.size<=q;omega),λ_=>⟨rfl,l.lt,λi b8 f=>by
    rw[List.getElem?_replicate]at f;split at f
    ·injection f with f;subst f;rw[Nat.zero_add];exact l.cell (k i (by assumption))
    ·cases f⟩⟩
   have T:Below w.heap.size w wr:=by rw[D];exact g
   obtain⟨bR,bx⟩:=zx2 a3 T;clear a3 T g l k t y u
   go_wp2_with fail
   go_ret
   exact⟨⟨_,rfl,bR.out⟩,by rw[<-D];exact bx.out⟩
end
section
attribute [local go_sem] ak
theorem cV(a b:Tp.B):(⟨a.toArray⟩:ByteArray)++⟨b.toArray⟩=⟨(a++b).toArray⟩:=by
 apply ByteArray.ext
 simp
theorem rF(g:List Tp.Nd)(v e0:Value)(c9:NS)(c3 e6 i:Nat)(x:Tp.Nd)(w:World)(P:yc w c9 g v)(b5:g[i]? =some x)(bR:w.heap[c3]? =some (J #[V I 0,v,e0,.map (some e6)] 198 (0,0)))(b8:Glob w)(d1:Ah x)(av:yx x)(a5:∀b∈Tp.keysOf x,(x8 b=true/\b.s.length<=1000)/\(Tp.scText b).length<=100000)(l:x.k=1\/x.k=2)(df:x.kids≠[]):
 Calls π 182 #[Z (some ⟨c3,0,O⟩),V I (i:Int)] w λe w'=>(∃m,e=ρ m/\Row w' (New w) (Tp.headsOf x).length m ((Tp.headsOf x).map xR))/\Below w.heap.size w w':=by
 obtain⟨e1,fr,eq,fG,fl⟩:=info_parts tV;obtain⟨kv,e5,R⟩:=P.at b5;have bn:=bS 0 x v kv e5 g.length i c9 w R av;have ds:=λW (d2:Below w.heap.size w W)=>R.below d2;obtain⟨a,f8,rfl,gl⟩:=P.form;obtain⟨g8,f4,rfl,_⟩:=R.kid.form;have hc:=R.lt;have fv:x.kids.length<=100000:=av.2.2;have b6:0 < x.kids.length:=List.length_pos_iff.2 df;obtain⟨E,M,an,cm,_⟩:=pC bR;obtain⟨c,N⟩:∃c,Tp.keysOf x=c:=⟨_,rfl⟩;have d0:c.length < 100000:=by
  rw[<-N];unfold Tp.keysOf Tp.pairs;split
  ·rw[List.length_map,<-ce,cg,List.length_zip];have:=av.1;omega
  ·simp
 have d:Tp.headsOf x=if x.k=1 then List.replicate x.kids.length [45]else c.map λb=>Tp.scText b++[58]:=by
  unfold Tp.headsOf;rw[N];split
  ·rw[List.map_const']
  ·rfl
 have db:x.k=1->c=[]:=λh=>by
  rw[<-N];unfold Tp.keysOf Tp.pairs;rw[if_neg (by omega)];rfl
 rw[N]at bn a5;obtain⟨z,dv⟩:∃z,Tp.headsOf x=z:=⟨_,rfl⟩;rw[dv]at d ⊢;obtain⟨c6,bw,b0,a3,bk,a0⟩:=zx6 bn ds a5 d b8 bR;have a1:=zD db;clear P b5 R bn ds a5 d b8 bR N dv av d1 db df;generalize hNN:g.length=e7 at *
 go_enter func182,ntmps182
 go_wp2_with fail
 refine c6.out.mono ?_;rintro e n ⟨⟨m,rfl,u⟩,b3⟩;obtain⟨gb,f9,rfl,_⟩:=u.form;obtain⟨q,ab⟩:∃q,c.length=q:=⟨_,rfl⟩;rw[ab]at u d0;obtain⟨be,al⟩:=zx2 u b3;have ct:=b3.size;clear u b3 c6 E M an cm;rw[ab]
 go_wp2_with fail
 go_loopw [7,23] (λft a9 wr=>∃(t:Nat) (F:Option Addr) (D sc:Nat),ft=Y F D sc/\t<=q/\a9=V I (t:Int)/\wr.ownsRow n.heap.size 9 1 (Y F D sc) t ((c.take t).map λb=>xR (Tp.scText b++[58]))/\Below n.heap.size n wr) (λ_ a9 _=>q - (Lib.intOf a9).toNat)
 case atStart=>exact⟨0,_,_,_,rfl,z_ _,rfl,World.ownsRow_nil _ _ _ _,ζ _ _⟩
 case round=>
  obtain⟨t,F,D,sc,rfl,g0,rfl,p,r⟩:=hrel;by_cases ei:t < q
  ·obtain⟨b,X⟩:∃b,c[t]? =some b:=⟨_,zE (by rw[ab];exact ei)⟩
   obtain⟨hd,gk,g2,a4,_,gf,fz,fs,b9⟩:=(be.out.below r).sc X;injection a4 with e11 e12 e13;clear e12;subst e11 e13;have S:=b0.out b (zL X);obtain⟨SX,ca⟩:∃eg,xR b.s=U eg:=⟨_,rfl⟩;have ba:Below n.heap.size n (wr.alloc (J #[V I b.k,V I b.n,U SX] 30)):=r.alloc r.size _;have dn:=af wr (J #[V I b.k,V I b.n,U SX] 30);have G:=eb b S.1.2 S.1.1 (wr.alloc (J #[V I b.k,V I b.n,U SX] 30)) (bk.out.step (al.out.trans (ba.mono ct)));unfold scV at G;rw[ca]at b9 G;obtain⟨T,bb⟩:∃T,Tp.scText b=T:=⟨_,rfl⟩;rw[bb]at G S;have bx:(⟨T.toArray⟩:ByteArray)++⟨#[58]⟩=⟨(T++[58]).toArray⟩:=cV T [58];have da:((⟨T.toArray⟩:ByteArray)++⟨#[58]⟩).size<=maxLen:=by rw[bx];show ((T++[58]).toArray).size<=maxLen;unfold maxLen;simp;omega
   have dr:(c.take (t+1)).map (λb=>xR (Tp.scText b++[58]))=(c.take t).map (λb=>xR (Tp.scText b++[58]))++[U (⟨T.toArray⟩++⟨#[58]⟩)]:=by
    rw[zG,X,List.map_append,bx];simp[bb,xR]
   have d6:(t:Int) < (q:Int):=by omega
   have ha:(0:Int)<=(t:Int):=by omega
   obtain⟨E,M,an,_⟩:=bv dn;have ch:=am p ((ξ xO wr).alloc (J #[V I b.k,V I b.n,U SX] 30)) (λ_ _ e=>e);obtain⟨ao,c0,bs,c2⟩:=zx4 G ch ba dr;have ex:=zD p.lt;unfold xR at ao;obtain⟨f,bD⟩:∃f:ByteArray,⟨T.toArray⟩=f:=⟨_,rfl⟩;rw[bD]at ao da;have e4:=zD (by have:=c2.out;rw[bD]at this;exact this:(c.take (t+1)).map (λb=>xR (Tp.scText b++[58]))=(c.take t).map (λb=>xR (Tp.scText b++[58]))++[U (f++⟨#[58]⟩)]);have dc:f.size+(⟨#[58]⟩:ByteArray).size<=maxLen:=by rw[<-zX];exact da
   have gd:f.size+1<=maxLen:=dc;have f3:f.size+1<=9223372036854775807:=dc;have g3:f.size<=9223372036854775806:=by omega
   have g1:¬9223372036854775807 < f.size+1:=by omega
   clear G p ch ba dr r dn ca bb bx c2 bD S X
   go_upto_region 6 with (fail)
   generalize (wr.alloc (J #[V I b.k,V I b.n,U SX] 30))=g6 at *
   go_wp2_with fail
   refine ao.out.mono ?_;rintro e a6 ⟨rfl,y⟩;have cb:=am c0.out (Far.of_below y xO) (λ_ _ e=>e);have b2:=bs.out.trans (y.mono bs.out.size);have e8:=b2.size;have C:Below n.heap.size n (a6.alloc (J #[U (f++⟨#[58]⟩)] 9)):=b2.alloc e8 _;have A:=am cb ((ξ xO a6).alloc (J #[U (f++⟨#[58]⟩)] 9)) (λ_ _ e=>e);obtain⟨d5,dp⟩:=zx2 A C;have er:=C.size;clear cb y b2 A C ao c0 bs E M an fz fs b9
   go_wp2_with (at_builtin;refine wpList_append_own _ rfl (.tmp 32) (.tmp 35) 22 rfl n.heap.size 9 e1 _ 1 16 underlying22 fr eq fG fl rfl (by decide) (Y F D sc) t _ rfl d5.out ⟨a6.heap.size,0,O⟩ 1 1 [U (f++⟨#[58]⟩)] rfl rfl (λj g7 d4=>by rw[gK];exact(ae (af _ _) j).trans (by simpa using d4)) (by simp[Value.oneCell']) (by unfold maxLen;omega) (by omega) (by simpa using er) ?_;intro hb w5 A f0 _)
   obtain⟨gg,cap,rfl,g4,_⟩:=aA A;rw[<-e4.out]at A;have ad:=dp.out.grown f0 dp.out.size (λk e=>(ex.out k e).1)
   go_roundw
   case rel=>exact⟨t+1,_,_,_,rfl,by omega,by go_num,A,ad⟩
   case measure=>simp[Lib.intOf];omega
  ·obtain rfl:t=q:=by omega
   have d6:¬(t:Int) < (t:Int):=by omega
   rw[zR (by omega)]at p;have s:=al.out.trans (r.mono ct);have b1:=bw.out _ s;obtain⟨gc,o,cap,fR,he,a2,ge,f2,ga,gr,c5⟩:=b1.cells;injection fR with a4 e2 e3;clear e2;subst a4 e3;have bm:=(s.block _ (lt_of_heap a0.out)).trans a0.out;obtain⟨E,M,an,cm,_⟩:=pC bm;have f5:(0:Int)<=(i:Int):=by omega
   have hg:(i:Int) < (e7:Int):=by omega
   have cl:=zD s;rcases l with l|l
   ·have f6:=a1.out l
    have d:=a3.out;rw[if_pos l]at d;obtain⟨L,e9⟩:∃L,x.kids.length=L:=⟨_,rfl⟩;rw[e9]at d c5 fv b6;have y:Below w.heap.size w (wr.alloc (J #[U ⟨#[45]⟩] 9)):=s.alloc s.size _;have H:Far xO wr (wr.alloc (J #[U ⟨#[45]⟩] 9)):=(ξ _ wr).alloc _;have co:=vd wr.heap.size 0 1 L ⟨#[45]⟩ (wr.alloc (J #[U ⟨#[45]⟩] 9)) (ae (af _ _) 0) (lt_of_heap (af _ _)) b6 (by omega);have f1:=H.at a2 id;have g5:=H.at c5 id;have hf:=H.at E id;have f7:=H.at M id;obtain⟨b4,ac⟩:=zx2 co y;rw[l]at a2 f1;subst d;clear p r b1 bm s y H co bw a0 al cl be b0 bk a1
    go_wp2_with fail
    refine b4.out.mono ?_;rintro e w5 ⟨⟨m,rfl,ck⟩,C⟩;have ad:=ac.out.trans (C.mono ac.out.size);have cc:Row w5 (New w) (List.replicate L [(45:UInt8)]).length m ((List.replicate L [(45:UInt8)]).map xR):=by
     rw[List.length_replicate,List.map_replicate];exact ck.mono (λk l _=>by have:=ac.out.size;show w.heap.size<=k;exact Nat.le_trans this l)
    obtain⟨d3,en⟩:=zx2 cc ad;clear ck C ad cc b4 ac
    go_wp2_with fail
    go_ret
    exact⟨⟨_,rfl,d3.out⟩,en.out⟩
   ·have d:=a3.out
    rw[if_neg (by omega)]at d;rw[l]at a2;have es:=cz p;subst es;have u:=az p;have c1:=zD (u.mono (G':=New w) (λk (l:n.heap.size<=k) _=>(by show w.heap.size<=k;omega)));have cv:z.length=D:=by rw[d,List.length_map,ab]
    have cf:z.map xR=c.map λb=>xR (Tp.scText b++[58]):=by rw[d,List.map_map];rfl
    have c4:∃m,Value.slice F D sc=m/\Row wr (New w) z.length m (z.map xR):=⟨_,rfl,by rw[cv,cf];exact c1.out⟩;have fn:=zD c4;clear c4 c1;clear p r b1 bm s bw a0 al be b0 bk a1 a3 d u cv cf
    go_wp2_with fail
    go_ret
    obtain⟨m,rfl,P⟩:=fn.out;exact⟨⟨_,rfl,P⟩,cl.out⟩
end
section
attribute [local go_sem] ak
theorem kE(xs:List (List UInt8)):Lib.join xs []=xs.flatten:=by
 cases xs with
 |nil=>rfl
 |cons x a=>
  rw[Lib.join_cons];have:∀a:List (List UInt8),Lib.joinTail [] a=a.flatten:=by
   intro a;induction a with
   |nil=>rfl
   |cons y a ih=>simp[Lib.joinTail]at ih ⊢;try exact ih
  rw[this];rfl
def Al(t:Tp.B)(b a:Int):Value:=γ #[xR t,V I b,V I a]
end
section
attribute [local go_sem] ak
theorem pX(x:Value)(a:World):(Go.method 653 273 x "sigillary/emit.text").run π a=.ok (384,x) a:=by kernel_rfl
theorem wo(s:Value)(a:World):(Instr.typeAssert (.iface 273 s) 271 277 true).run π a=.ok (.tuple #[γ #[V I 0,U ⟨#[]⟩],β false]) a:=by kernel_rfl
end
section
attribute [local go_sem] ak
theorem wn(i:Int)(s:ByteArray)(a:World):(Instr.typeAssert (.iface 277 (γ #[V I i,U s])) 271 273 true).run π a=.ok (.tuple #[U ⟨#[]⟩,β false]) a:=by kernel_rfl
theorem wm(i:Int)(s:ByteArray)(a:World):(Instr.typeAssert (.iface 277 (γ #[V I i,U s])) 271 277 false).run π a=.ok (γ #[V I i,U s]) a:=by kernel_rfl
end
section
attribute [local go_sem] ak
theorem pg(g:List Tp.Nd)(v:Value)(E:NS)(r:List Nat)(w:World)(s:yc w E g v)(av:∀k,E k->k < w.heap.size)(S:Glob w)(ac:yt g)(A:yR g)(ad:Tp.tidy 0 g=W g)(f:Tp.deepest g 1000 0 1 (List.replicate g.length 0)=W r)(X:Tp.okGr 0 g=true)
(an:∀i,i < g.length->r.getD i 0+(if (g.getD i ⟨0,Tp.Sc.null,[],[]⟩).kids.isEmpty then 0 else 1)<=24):
 Calls π 92 #[γ #[V I 0,v]] w λe w'=>e=ρ (β false)/\Below w.heap.size w w':=by
 have l:Below w.heap.size w (w.alloc (J #[V I 0,v] 54)):=(ζ _ w).alloc (η _) _;have n:=af w (J #[V I 0,v] 54);have P:=pt g v E r _ (s.below l) (λk z=>zK (av k z) l.size) (S.step l) ac A ad f X;obtain⟨q,ab⟩:∃q,w.heap.size=q:=⟨_,rfl⟩;rw[ab]at n;obtain⟨T,a0,_⟩:=bO n;have a6:=A.2;obtain⟨a,a5,rfl,_⟩:=s.form;obtain⟨b,M⟩:∃b,g.length=b:=⟨_,rfl⟩;obtain⟨bw,F,p,m,R,G⟩:=zx6 M P l n an s;rw[M]at F p m R G T a0 a6 ⊢;clear P l n an s av S ac A ad f X M
 go_enter func92,ntmps92
 go_upto_region 1 with (fail)
 generalize (w.alloc (J #[V I 0,Y a b a5] 54))=cb at *;clear ab
 go_wp2_with fail
 refine F.out.mono ?_;rintro e bD ⟨⟨cc,rfl,al,D⟩,L⟩;obtain⟨b8,b4,rfl,_⟩:=D.form;have a2:=(L.block _ (lt_of_heap m.out)).trans m.out;have C:=p.out.trans (L.mono p.out.size);have a3:=G.out.below C;obtain⟨b5,cl,_⟩:=bO a2;obtain⟨bs,ba,be,bk⟩:=zx4 D a3 C al;clear D L a2 C a3 al F p m G T a0
 go_wp2_with fail
 go_loopw [14] (λy wr=>∃t:Nat,y=V I (t:Int)/\t<=b/\wr=bD) (λy _=>b - (Lib.intOf y).toNat)
 case atStart=>exact⟨0,rfl,z_ _,rfl⟩
 case round=>
  obtain⟨t,rfl,ca,rfl⟩:=hrel;by_cases j:t < b
  ·obtain⟨x,u⟩:∃x,g[t]? =W x:=⟨_,zE (by rw[bw.out];exact j)⟩
   obtain⟨d,f⟩:∃d,r[t]? =W d:=⟨_,zE (by rw[bk.out];exact j)⟩;have c:=R.out t j;rw[zY,f,zY,u]at c;simp only[Option.getD_some]at c;obtain⟨kv,cf,H⟩:=ba.out.at u;obtain⟨b9,o,cap,bn,cv,bx,bb,a4,c3,c4,c5⟩:=H.cells;injection bn with e91 e92 e93;clear e92;subst e91 e93;obtain⟨ck,b1,rfl,_⟩:=H.kid.form;obtain⟨ch,b6,b2,b0,_,ct,co⟩:=bs.out.nat f;injection b0 with e81 e82 e83;clear e82;subst e81 e83;have a9:(t:Int) < (b:Int):=by omega
   have cm:(0:Int)<=(t:Int):=by omega
   have a1:d+(if x.kids.length=0 then 0 else 1)<=24:=by cases z:x.kids<;>simp[z]at c ⊢<;>omega
   clear c;have c:=a1;generalize x.kids.length=ao at *;clear H a1 u f bx bb a4 c3 c4;by_cases N:ao=0
   ·subst N
    have bR:¬24 < (d:Int):=by simp at c;omega
    have bm:¬(0:Int) < ((0:Nat):Int):=by omega
    go_wp2_with fail
    go_roundw
    case rel=>exact⟨t+1,by go_num,j,by first|rfl|trivial⟩
    case measure=>simp[Lib.intOf];omega
   ·have bR:¬24 < (d:Int)+1:=by simp[N]at c;omega
    have bm:(0:Int) < (ao:Int):=by omega
    have b3:IntKind.i64.wrap ((d:Int)+1)=(d:Int)+1:=zU _ (by omega)
    go_wp2_with fail
    go_roundw
    case rel=>exact⟨t+1,by go_num,j,by first|rfl|trivial⟩
    case measure=>simp[Lib.intOf];omega
  ·obtain rfl:t=b:=by omega
   have a9:¬(t:Int) < (t:Int):=by omega
   go_wp2_with fail
   go_ret
   exact⟨rfl,be.out⟩
def plSum(g:List Tp.Nd)(t:Nat):Nat:=((List.range t).map λi=>if Tp.isAnch g i then 1 else Tp.uses g i).sum
theorem ib(g:List Tp.Nd)(t:Nat):plSum g (t+1)=plSum g t+(if Tp.isAnch g t then 1 else Tp.uses g t):=by
 unfold plSum;rw[List.range_succ,List.map_append,List.sum_append];simp
theorem nC(g:List Tp.Nd)(a:Nat)(b:∀i,Tp.uses g i<=a)(c:1<=a):∀t,plSum g t<=t * a
 |0=>by simp[plSum]
 |t+1=>by
  rw[ib];have:=nC g a b c t;have:=b t;rw[Nat.succ_mul];split<;>omega
theorem pD(g:List Tp.Nd)(i:Nat):(0 < Tp.anchor g i)=(Tp.isAnch g i=true):=by
 unfold Tp.anchor;by_cases a:Tp.isAnch g i=true
 ·rw[if_pos a]
  simp only[a,eq_iff_iff,iff_true];exact List.length_pos_iff.2 (List.ne_nil_of_mem (List.mem_filter.2 ⟨List.mem_range.2 (Nat.lt_succ_self i),a⟩))
 ·simp[a]
theorem oH(g:List Tp.Nd)(v R:Value)(z be:NS)(w:World)(D:yc w z g v)(T:∀k,z k->k < w.heap.size)(L:Glob w)(M:yt g)(m:yR g)(P:Tp.tidy 0 g=W g)(q:Tp.okGr 0 g=true)(x:Row w be g.length R (xP ((List.range g.length).map (Tp.anchor g)))):
 Calls π 94 #[γ #[V I 0,v],R] w λe w'=>e=ρ (V I (Tp.places g:Int))/\Below w.heap.size w w':=by
 have d:Below w.heap.size w (w.alloc (J #[V I 0,v] 54)):=(ζ _ w).alloc (η _) _;have G:=pL g v z _ (D.below d) (λk a1=>zK (T k a1) d.size) (L.step d) M m P q;have ba:=jk g m q;have C:∀i,Tp.uses g i<=100000001:=λi=>by
  unfold Tp.uses;have:=List.count_le_length (a:=i) (l:=g.flatMap (·.kids));split<;>omega
 have S:=nC g 100000001 C (by omega);have ao:=m.2;have X:Tp.places g=plSum g g.length:=rfl;rw[X];obtain⟨a,bR,rfl,_⟩:=D.form;obtain⟨cf,c3,rfl,_⟩:=x.form;obtain⟨b,al⟩:∃b,g.length=b:=⟨_,rfl⟩;obtain⟨A,o,p,a3,a6⟩:=zx5 G d x S C;rw[al]at A o p ao ⊢;clear G d D L M m P T ba q x al X S C
 go_enter func94,ntmps94
 go_wp2_with fail
 refine A.out.mono ?_;rintro e bb ⟨⟨b4,rfl,y⟩,ad⟩;obtain⟨b2,b0,rfl,_⟩:=y.form;have u:=o.out.trans (ad.mono o.out.size);have ac:=p.out.below u;obtain⟨a9,a5,a4⟩:=zx3 y ac u;clear y ad u ac A o p
 go_wp2_with fail
 go_loopw [7,17] (λa2 s wr=>∃t:Nat,a2=V I (plSum g t:Int)/\s=V I (t:Int)/\t<=b/\wr=bb) (λ_ s _=>b - (Lib.intOf s).toNat)
 case atStart=>exact⟨0,rfl,rfl,z_ _,rfl⟩
 case round=>
  obtain⟨t,rfl,rfl,b3,rfl⟩:=hrel;by_cases f:t < b
  ·have ab:((List.range b).map (Tp.uses g))[t]? =W (Tp.uses g t):=by simp[f]
   have H:((List.range b).map (Tp.anchor g))[t]? =W (Tp.anchor g t):=by simp[f]
   obtain⟨b6,b1,bw,bk,_,ch,cb⟩:=a9.out.nat ab;injection bk with e81 e82 e83;clear e82;subst e81 e83;obtain⟨bx,bs,bn,a0,_,ca,b9⟩:=a5.out.nat H;injection a0 with e71 e72 e73;clear e72;subst e71 e73;have av:(t:Int) < (b:Int):=by omega
   have b8:(0:Int)<=(t:Int):=by omega
   have c:=ib g t;have n:=pD g t;have cc:=a3.out t;have b5:=a6.out t;have bD:t * 100000001<=200 * 100000001:=Nat.mul_le_mul_right _ (by omega);generalize Tp.anchor g t=r at *;generalize plSum g t=j at *;generalize Tp.uses g t=F at *;clear ab H;by_cases N:0 < r
   ·have bm:0 < (r:Int):=by omega
    rw[if_pos (n.mp N)]at c;have an:IntKind.i64.wrap ((j:Int)+1)=(j:Int)+1:=zU _ (by omega);have E:=zD c;clear c n
    go_wp2_with fail
    go_roundw
    case rel=>exact⟨t+1,by rw[E.out];go_num,by go_num,f,by first|rfl|trivial⟩
    case measure=>simp[Lib.intOf];omega
   ·have bm:¬0 < (r:Int):=by omega
    rw[if_neg (λe=>N (n.mpr e))]at c;have an:IntKind.i64.wrap ((j:Int)+(F:Int))=(j:Int)+(F:Int):=zU _ (by omega);have E:=zD c;clear c n
    go_wp2_with fail
    go_roundw
    case rel=>exact⟨t+1,by rw[E.out];go_num,by go_num,f,by first|rfl|trivial⟩
    case measure=>simp[Lib.intOf];omega
  ·obtain rfl:t=b:=by omega
   have av:¬(t:Int) < (t:Int):=by omega
   go_wp2_with fail
   go_ret
   exact⟨rfl,a4.out⟩
end
section
attribute [local go_sem] ak
attribute [local go_sem] Oper.semAt_some
theorem my(a:Nat)(w:World):Calls π 95 #[Z (W ⟨a,0,O⟩)] w λe w'=>e=ρ (φ (.func 131) #[] #[Z (W ⟨w.heap.size,0,O⟩)])/\w'=w.alloc (J #[Z (W ⟨a,0,O⟩)] 195):=by
 go_enter func95,ntmps95
 go_wp2
 go_ret
 exact⟨rfl,rfl⟩
theorem sk(args:Array Value)(w:World):(callFunc 131 args).run π w=.ok (.enter 131 args) w:=by kernel_rfl
def lenTo(a:List Tp.B)(t:Nat):Nat:=((a.take t).map λl=>l.length+1).sum
theorem ig(a:List Tp.B)(t:Nat)(l:Tp.B)(b:a[t]? =W l):lenTo a (t+1)=lenTo a t+(l.length+1):=by
 unfold lenTo;rw[zG,b,List.map_append,List.sum_append];simp
theorem iO:∀a:List Tp.B,((a.map λl=>l.length+1).sum)=(a.flatMap (·++[10])).length
 | []=>rfl
 |l::r=>by rw[List.map_cons,List.sum_cons,iO r,List.flatMap_cons,zP,zP];rfl
theorem cY(b:List Tp.B)(t:Nat):lenTo b t<=(b.flatMap (·++[10])).length:=by
 rw[<-iO];unfold lenTo;have:∀(l:List Nat) (t:Nat),(l.take t).sum<=l.sum:=by
  intro l;induction l with
  |nil=>intro t;simp
  |cons a r ih=>intro t;cases t with
   |zero=>simp
   |succ t=>have:=ih t;simp;omega
 rw[List.map_take];exact this _ _
theorem nE(b:List Tp.B):b.length<=lenTo b b.length:=by
 unfold lenTo;rw[List.take_length];induction b with
 |nil=>simp
 |cons a r ih=>simp;omega
structure PnI(b:Nat)(w:World)(q:Nat)(ls:List Tp.B)(t:Nat)(F:NS)(W:World):Prop where
 le:t<=ls.length
 row:∃(sa:Option Addr) (sn sc:Nat),(∀k,F k↔k=q\/k=q+1\/(Value.slice sa sn sc).ownBlock=some k)/\W.heap[q]? =some (J #[Y sa sn sc] 22 (0,0))/\W.heap[q+1]? =some (J #[V I (lenTo ls t:Int)] 3 (0,0))/\W.ownsRow (q+2) 9 1 (Y sa sn sc) t ((ls.take t).map xR)
 far:Below b w W
end
section
attribute [local go_sem] ak
end
section
attribute [local go_sem] ak
theorem rM(a:List Tp.B)(t:Nat)(l:Tp.B)(c:a[t]? =W l):(a.take t).flatten.length+l.length<=a.flatten.length:=by
 have d:a=a.take t++(l::a.drop (t+1)):=by
  have b:=(List.take_append_drop t a).symm;rw[aE a t l c]at b;exact b
 have e:=congrArg (λa=>a.flatten.length) d;simp only[List.flatten_append,List.flatten_cons,zP]at e;omega
def commas(a:List Tp.B):Tp.B:=a.flatMap λl=>l++[44]
theorem gt(a:List Tp.B)(t:Nat)(l:Tp.B)(b:a[t]? =W l):(commas (a.take t)).length+(l.length+1)<=(commas a).length:=by
 have:=rM (a.map λl=>l++[44]) t (l++[44]) (by rw[List.getElem?_map,b];rfl);unfold commas;rw[List.flatMap_def,List.flatMap_def,List.map_take]
 simpa using this
theorem gs(a:List Tp.B)(t:Nat)(l:Tp.B)(b:a[t]? =W l):commas (a.take (t+1))=commas (a.take t)++(l++[44]):=by
 unfold commas;rw[zG,b,List.flatMap_append];simp
theorem pV(d:List Nat)(v:Value)(b3:NS)(w:World)(E:Row w b3 d.length v (xP d))(F:Glob w)(f:∀k∈d,k<=1000000)(r:(commas (d.map λk=>Tp.itoa ((k:Nat):Int))).length<=1000000):
 Calls π 276 #[v] w λe w'=>e=ρ (xR (commas (d.map λk=>Tp.itoa ((k:Nat):Int))))/\Below w.heap.size w w':=by
 obtain⟨b1,bx,rfl,a0⟩:=E.form;have ao:=F.1;unfold maxLen at a0;obtain⟨LS,A⟩:∃LS,(d.map λk=>Tp.itoa ((k:Nat):Int))=LS:=⟨_,rfl⟩;have m:∀(t k:Nat),d[t]? =some k->LS[t]? =some (Tp.itoa (k:Int)):=λt k y=>by rw[<-A,List.getElem?_map,y];rfl
 have N:LS.length=d.length:=by rw[<-A];simp
 rw[A]at r ⊢;obtain⟨j,R⟩:∃j,d.length=j:=⟨_,rfl⟩;rw[R]at E N a0 ⊢;obtain⟨cb,M⟩:∃T,xR (commas LS)=T:=⟨_,rfl⟩;rw[M];obtain⟨b,q⟩:∃b,w.heap.size=b:=⟨_,rfl⟩;have g:=bo w;have a:Below w.heap.size w (w.alloc (J #[Z O,Y O 0 0] 38)):=(ζ _ w).alloc (η _) _;have S:=(E.mono (G':=λk=>k < b) (λk _ f=>by rw[<-q];exact f)).below a;have bn:(w.alloc (J #[Z O,Y O 0 0] 38)).heap.size=b+1:=by simp[q]
 rw[q]at g ao;have a4:=zD (θ R N);obtain⟨b2,b4,b8,a9,b6,an⟩:=zx6 m f r S a g;have bs:=zD (F.step a);have a6:=zD q;clear E F f r S a g m A R N
 go_enter func276,ntmps276
 go_wp2_with fail
 generalize (w.alloc (J #[Z O,Y O 0 0] 38))=cv at *
 go_loopw [8] (λH wr=>∃t:Nat,H=V I (t:Int)/\t<=j/\Lib.IsBuilderF 38 5 b b (Lib.byteCells (commas (LS.take t))) wr/\Row wr (λk=>k < b) j (Y b1 j bx) (xP d)/\Below b w wr/\Glob wr/\b+1<=wr.heap.size) (λH _=>j - (Lib.intOf H).toNat)
 case atStart=>exact⟨0,rfl,z_ _,an.out,a9.out,by rw[<-a6.out];exact b6.out,bs.out,by omega⟩
 case round=>
  obtain⟨t,rfl,cl,g,C,z,u,r⟩:=hrel;by_cases al:t < j
  ·obtain⟨k,f⟩:∃k,d[t]? =some k:=⟨_,zE (by rw[a4.out.1];exact al)⟩
   obtain⟨l,a2⟩:∃l,Tp.itoa (k:Int)=l:=⟨_,rfl⟩;have b0:=b4.out k (zL f);have s:=dP (k:Int) (by omega) (by omega) wr u;have m:=b2.out t k f;rw[a2]at s m;have bm:=gt LS t l m;have o:=gs LS t l m;have b5:=b8.out;obtain⟨c4,ck,co,bw,_,ch,c2⟩:=C.nat f;injection bw with e11 e12 e13;clear e12;subst e11 e13;obtain⟨c,P⟩:∃c,xR l=U c:=⟨_,rfl⟩;have ad:(⟨l.toArray⟩:ByteArray)=c:=by injection P
   have c0:c.size=l.length:=by rw[<-ad];rfl
   rw[P]at s;have c3:(c++(⟨#[44]⟩:ByteArray)).size<=maxLen:=by rw[zX];unfold maxLen;show c.size+1<=_;omega
   have cf:c.size+1<=maxLen:=by unfold maxLen;omega
   have ca:c.size+1<=9223372036854775807:=by omega
   have cm:¬9223372036854775807 < c.size+1:=by omega
   have bb:Lib.byteCells (commas (LS.take t))++Lib.strCells (c++(⟨#[44]⟩:ByteArray))=Lib.byteCells (commas (LS.take (t+1))):=by
    rw[o,Lib.byteCells_append,<-ad];congr 1
    try (unfold Lib.strCells Lib.byteCells;simp)
   have L:=λW (y:Below wr.heap.size wr W)=>fa b b _ (c++(⟨#[44]⟩:ByteArray)) W (cE g y) (by rw[zX,Lib.byteCells_length];have:(⟨#[44]⟩:ByteArray).size=1:=rfl;omega) (by have:=y.size;omega);rw[bb]at L;have bD:(t:Int) < (j:Int):=by omega
   have c1:(0:Int)<=(t:Int):=by omega
   obtain⟨a1,a3,p,be,ab⟩:=zx5 L C z s u;clear L bb g C z P a2 m bm o s u f b0 b5
   go_wp2_with fail
   refine be.out.mono ?_;rintro e w5 ⟨rfl,ba⟩;have n:=zD ba;clear ba be
   go_wp2_with fail
   refine(a1.out _ n.out).mono ?_;rintro e G ⟨rfl,X,a,_⟩;have bn:=a.size;have cc:=n.out.size;have a5:=(a3.out.below n.out).far (D:=λk=>b<=k) ⟨a.os,a.tape,a.output,a.size,λi ct b9=>a.block i (Nat.lt_of_not_le b9)⟩ (λk f _ e=>by omega);have av:=p.out.trans ((n.out.mono (by omega)).trans a);have ac:Glob G:=(ab.out.step n.out).keep a ao;have x:=zD (θ (show Lib.IsBuilderF 38 5 b b _ G from .inr X) (θ a5 (θ av ac)));clear X a a5 av ac a1 a3 p n ab
   go_wp2_with fail
   go_roundw
   case rel=>exact⟨t+1,by go_num,al,x.out.1,x.out.2.1,x.out.2.2.1,x.out.2.2.2,by omega⟩
   case measure=>simp[Lib.intOf];omega
  ·obtain rfl:t=j:=by omega
   have bD:¬(t:Int) < (t:Int):=by omega
   rw[zR (by rw[a4.out.2];omega)]at g;have o:=Tryz.Builder_String_any_f b b _ wr g (by omega);obtain⟨bk,p⟩:=zx2 o z;clear o z g C u an a9
   go_wp2_with fail
   refine bk.out.mono ?_;rintro e G ⟨rfl,_,a⟩;have bR:=p.out.trans a;clear a bk p;unfold xR at M;rw[M]
   go_wp2_with fail
   go_ret
   exact⟨rfl,by rw[a6.out];exact bR⟩
end
end Go.Proofs.YtbikgdhbiebhcaaGreatDoor
