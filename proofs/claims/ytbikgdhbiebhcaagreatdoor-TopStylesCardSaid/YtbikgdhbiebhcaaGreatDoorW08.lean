/- Part 8. -/
import Derived.Test.YtbikgdhbiebhcaaGreatDoorW07
import Derived.Maps.OwnIn
import Derived.Laws.IdiomCopy
import Derived.Laws.OwnMore
set_option linter.unusedVariables false
set_option linter.unusedSimpArgs false
set_option maxRecDepth 100000
set_option maxHeartbeats 2000000
open Go.Value renaming int -> V, string -> U, slice -> Y, pointer -> Z, func -> φ, agg -> γ, bool -> β
open Go.IntKind renaming i64 -> I
open Option renaming some -> W, none -> O
open Go.Obj renaming cells -> J
open Go.Ending renaming returned -> ρ
open Go.Proofs.Tryz renaming prog -> π
open Nat renaming le_refl -> η
open Go.RowKit.Below renaming refl -> ζ
namespace Go.Proofs.YtbikgdhbiebhcaaGreatDoor
open Go.RowKit Tryz
def pcs(p:Tp.Sc × Nat):List Value:=[V I p.1.k,V I p.1.n,xR p.1.s,V I (p.2:Int)]
def scs(p:Tp.Sc):List Value:=[V I p.k,V I p.n,xR p.s]
theorem qJ:∀l:List (Tp.Sc × Nat),(l.flatMap pcs).length=l.length * 4
 | []=>rfl
 |x::r=>by rw[List.flatMap_cons,zP,qJ r,zO];simp[pcs];omega
theorem uq(p q:Tp.Sc × Nat)(w:World):Calls π 169 #[γ (pcs p).toArray,γ (pcs q).toArray] w λe w'=>e=ρ (V I (za p.1 q.1))/\Below w.heap.size w w':=by
 obtain⟨⟨k,n,s⟩,j⟩:=p;obtain⟨⟨f,c,d⟩,o⟩:=q;have a:=λr=>mQ ⟨k,n,s⟩ ⟨f,c,d⟩ r;unfold scV at a;unfold pcs;simp only at a ⊢;obtain⟨y,l⟩:∃b,xR s=U b:=⟨_,rfl⟩;obtain⟨u,m⟩:∃b,xR d=U b:=⟨_,rfl⟩;rw[l,m]at a ⊢;generalize za ⟨k,n,s⟩ ⟨f,c,d⟩=A at *;have g:Below w.heap.size w ((w.alloc (J #[V I k,V I n,U y,V I (j:Int)] 262)).alloc (J #[V I f,V I c,U u,V I (o:Int)] 262)):=((ζ _ _).alloc (η _) _).alloc (by simp) _;obtain⟨v,t⟩:=zx2 a g;clear a g l m
 go_enter func169,ntmps169
 go_wp2_with fail
 refine(v.out _).mono ?_;rintro e z ⟨rfl,i⟩;have x:=cR t.out i;clear i
 go_wp2_with fail
 go_ret
 exact⟨rfl,x⟩
theorem rr(l:List (Tp.Sc × Nat))(g cap f:Nat)(cb:l.length=f)(ab:1<=f)(d5:f<=100000)(w:World)(b9:PR w g (l.flatMap pcs)):
 Calls π 249 #[Y (W ⟨g,0,O⟩) f cap,V I 0,V I (f:Int),φ (.func 169) #[] #[]] w λe w'=>(∃z,e=ρ z)/\PR w' g ((yq Prod.fst l).flatMap pcs)/\Far (·=g) w w':=by
 have bw:(yq Prod.fst (l.take 1)++l.drop 1)=l:=by
  cases l with
  |nil=>simp at cb;omega
  |cons x r=>rfl
 have ca:PR w g ((yq Prod.fst (l.take 1)++l.drop 1).flatMap pcs):=by rw[bw];exact b9
 have db:=zD ca;clear b9 ca bw
 go_enter func249,ntmps249
 go_wp2_with fail
 go_loopw [8] (λa5 wr=>∃i:Nat,a5=V I (i:Int)/\1<=i/\i<=f/\PR wr g ((yq Prod.fst (l.take i)++l.drop i).flatMap pcs)/\Far (·=g) w wr) (λa5 _=>f - (Lib.intOf a5).toNat)
 case atStart=>exact⟨1,rfl,η _,ab,db.out,ξ _ _⟩
 case round=>
  obtain⟨i,rfl,ds,d6,C,X⟩:=hrel;by_cases cl:i < f
  ·obtain⟨p,a4⟩:∃x,l[i]? =W x:=⟨_,zE (by rw[cb];exact cl)⟩
   have cv:(yq Prod.fst (l.take i)).length=i:=by rw[cg,List.length_take];omega
   have b5:l.drop i=p::l.drop (i+1):=aE l i p a4;have c2:=od Prod.fst l i p a4;rw[b5]at C;have cm:(i:Int) < (f:Int):=by omega
   obtain⟨cc,ct,b6⟩:=zx3 C X cv;clear C X b5 a4
   go_wp2_with fail
   go_loopw [9] (λao b2=>∃s B,ao=V I ((s.length:Nat):Int)/\(s++B:List (Tp.Sc × Nat))=yq Prod.fst (l.take i)/\(∀N,B.head? =W N->Tp.scLt (Prod.fst p) (Prod.fst N)=true)/\PR b2 g ((s++p::(B++l.drop (i+1))).flatMap pcs)/\Far (·=g) w b2) (λao _=>(Lib.intOf ao).toNat)
   case atStart=>exact⟨yq Prod.fst (l.take i),[],by rw[b6.out],List.append_nil _,λN d=>by simp at d,by simpa using cc.out,ct.out⟩
   case round=>
    obtain⟨s,B,rfl,G,bR,u,T⟩:=hrel;have F:(∀a,s.getLast? =W a->Tp.scLt (Prod.fst p) (Prod.fst a)=false)->∀b,PR b g ((s++p::(B++l.drop (i+1))).flatMap pcs)->PR b g ((yq Prod.fst (l.take (i+1))++l.drop (i+1)).flatMap pcs):=λc1 b d=>by
     rw[c2,rq Prod.fst p _ s B G (lT Prod.fst _) c1 bR]
     simpa using d
    rcases List.eq_nil_or_concat s with rfl|⟨o,a,rfl⟩
    ·have bD:=F (λa d=>by simp at d) wr u
     obtain⟨co,y⟩:=zx2 bD T;have L:((([]:List (Tp.Sc × Nat)).length:Nat):Int)=0:=rfl;rw[L];clear F u T bR G bD
     go_wp2_with fail
     refine wp_region_noPanic ?_;refine ar (λ_=>True) [] (by kernel_rfl) ?_;refine aJ (by kernel_rfl) (λ_ _ _ _ d=>d) trivial 0 [0,1,2,3,4,5,6,7,8,9,10,11,12,13,14,15,16] _ _ (by kernel_rfl) ?_;iterate 4 (refine ax (v:=?_) ?_ ?_;rotate_left;·(intro c3 ba;(try dsimp only at ba);go_simp;try with_reducible rfl);(try go_frame))
     iterate 12 (refine aB rfl (by simp only[zH,zI,zJ];rfl) (by kernel_rfl) ?_;(try go_frame))
     iterate 1 (refine ax (v:=?_) ?_ ?_;rotate_left;·(intro c3 ba;(try dsimp only at ba);go_simp;try with_reducible rfl);(try go_frame))
     refine xT.done ?_;try dsimp only
     refine aP (by kernel_rfl) (NoPanic.normal ?_) _
     go_wp2_with fail
     go_roundw
     case rel=>exact⟨i+1,by go_num,by omega,by omega,co.out.far ((ξ xO _).drew) (λe=>e),y.out.drew⟩
     case measure=>simp[Lib.intOf];omega
    ·rw[List.concat_eq_append]at G u F ⊢
     obtain⟨m,a0⟩:∃m,o.length=m:=⟨_,rfl⟩;have d1:m+1<=i:=by
      have ab:=congrArg List.length G;rw[b6.out]at ab;simp at ab
      omega
     have bs:(o.flatMap pcs).length=m * 4:=by rw[<-a0];exact qJ o
     have R:((o++[a])++p::(B++l.drop (i+1))).flatMap pcs=o.flatMap pcs++[V I a.1.k,V I a.1.n,xR a.1.s,V I (a.2:Int),V I p.1.k,V I p.1.n,xR p.1.s,V I (p.2:Int)]++(B++l.drop (i+1)).flatMap pcs:=by simp[List.flatMap_append,List.flatMap_cons,pcs]
     have al:(o++p::(a::B++l.drop (i+1))).flatMap pcs=o.flatMap pcs++[V I p.1.k,V I p.1.n,xR p.1.s,V I (p.2:Int),V I a.1.k,V I a.1.n,xR a.1.s,V I (a.2:Int)]++(B++l.drop (i+1)).flatMap pcs:=by simp[List.flatMap_append,List.flatMap_cons,pcs]
     have a1:=λb=>uq p a b;obtain⟨k,bx⟩:∃k,m+1=k:=⟨_,rfl⟩;rw[show (((o++[a]).length:Nat):Int)=(k:Int)by simp[a0,<-bx]];have ei:IntKind.i64.wrap ((k:Int) - 1)=(m:Int):=by rw[<-bx,show (((m+1:Nat):Int) - 1)=(m:Int)by omega];exact zU _ (by omega)
     rw[R]at u;have n:∀(j:Nat) (z:Value),[V I a.1.k,V I a.1.n,xR a.1.s,V I (a.2:Int),V I p.1.k,V I p.1.n,xR p.1.s,V I (p.2:Int)][j]? =W z->wr.cell? ⟨g,m * 4+j,O⟩=W z:=λj z bm=>u.cell (by
      have cf:=(zM.1 bm).1;rw[List.append_assoc,zV (by omega),bs,Nat.add_sub_cancel_left,List.getElem?_append_left cf];exact bm)
     have a3:=λ(b:World) (d:PR b g (o.flatMap pcs++[V I a.1.k,V I a.1.n,xR a.1.s,V I (a.2:Int),V I p.1.k,V I p.1.n,xR p.1.s,V I (p.2:Int)]++(B++l.drop (i+1)).flatMap pcs))=>xf d bs (k:=k * 4) (by omega);have b0:=λ(b:World) (d:PR b g (o.flatMap pcs++[V I a.1.k,V I a.1.n,xR a.1.s,V I (a.2:Int),V I p.1.k,V I p.1.n,xR p.1.s,V I (p.2:Int)]++(B++l.drop (i+1)).flatMap pcs))=>d.frozen;obtain⟨S,b8⟩:∃an,xR p.1.s=U an:=⟨_,rfl⟩;obtain⟨M,b4⟩:∃an,xR a.1.s=U an:=⟨_,rfl⟩;have c0:=λj z d=>n j z d;rw[b8,b4]at n a3 b0 u al R;simp only[pcs,b8,b4]at a1;have L:∀b,Far xO wr b->b.cell? ⟨g,m * 4,O⟩=W (V I a.1.k)/\b.cell? ⟨g,m * 4+1,O⟩=W (V I a.1.n)/\b.cell? ⟨g,m * 4+2,O⟩=W (U M)/\b.cell? ⟨g,m * 4+3,O⟩=W (V I (a.2:Int))/\b.cell? ⟨g,k * 4,O⟩=W (V I p.1.k)/\b.cell? ⟨g,k * 4+1,O⟩=W (V I p.1.n)/\b.cell? ⟨g,k * 4+2,O⟩=W (U S)/\b.cell? ⟨g,k * 4+3,O⟩=W (V I (p.2:Int)):=λb t=>⟨t.at (n 0 _ rfl) id,t.at (n 1 _ rfl) id,t.at (n 2 _ rfl) id,t.at (n 3 _ rfl) id,(by have:=t.at (n 4 _ rfl) id;rw[show k * 4=m * 4+4 by omega];exact this),(by have:=t.at (n 5 _ rfl) id;rw[show k * 4+1=m * 4+5 by omega];exact this),(by have:=t.at (n 6 _ rfl) id;rw[show k * 4+2=m * 4+6 by omega];exact this),(by have:=t.at (n 7 _ rfl) id;rw[show k * 4+3=m * 4+7 by omega];exact this)⟩;obtain⟨da,c5,ad,A⟩:=zx4 a3 F L a1;have ex:(k:Int) < (f:Int):=by omega
     have d3:(0:Int)<=(k:Int):=by omega
     have dv:(0:Int) < (k:Int):=by omega
     have eq:0 < k:=by omega
     have e0:(m:Int) < (f:Int):=by omega
     have d4:(0:Int)<=(m:Int):=by omega
     obtain⟨bn,c6,ch⟩:=zx3 u al R;clear F u n a3 a1 L c0 al R b0;have y:=zD T;clear T;cases ac:Tp.scLt (Prod.fst p) (Prod.fst a) with
     |true=>
      have E:za (Prod.fst p) (Prod.fst a)=-1:=by unfold za;rw[ac];rfl
      replace A:RowKit.Hid _:=zD (λb=>E ▸ A.out b)
      clear E
      go_wp2_with fail
      go_region_held3 (λb=>b.cell? ⟨g,m * 4,O⟩=W (V I a.1.k)/\b.cell? ⟨g,m * 4+1,O⟩=W (V I a.1.n)/\b.cell? ⟨g,m * 4+2,O⟩=W (U M)/\b.cell? ⟨g,m * 4+3,O⟩=W (V I (a.2:Int))/\b.cell? ⟨g,k * 4,O⟩=W (V I p.1.k)/\b.cell? ⟨g,k * 4+1,O⟩=W (V I p.1.n)/\b.cell? ⟨g,k * 4+2,O⟩=W (U S)/\b.cell? ⟨g,k * 4+3,O⟩=W (V I (p.2:Int))) (exact ad.out _ (by repeat (first|exact ξ _ _|assumption|refine Far.drew ?_|refine Far.alloc ?_ _|refine Far.drewN ?_ _))) (first|(go_at_call 169;refine(A.out wr.drew).mono ?_;rintro e D ⟨rfl,H⟩;have q:Far xO wr D:=((ξ _ wr).drew).below H))
      have c:=bn.out.far q (λe=>e);obtain⟨⟨a2,b3⟩,⟨a6,bk⟩⟩:=da.out D c;obtain⟨dr,es,dn,eg,er,d2,e2,dc⟩:=ad.out D q;have u0:=c.frozen (m * 4);have u1:=c.frozen (m * 4+1);have u2:=c.frozen (m * 4+2);have u3:=c.frozen (m * 4+3);have dp:=c.frozen (k * 4);have df:=c.frozen (k * 4+1);have en:=c.frozen (k * 4+2);have d0:=c.frozen (k * 4+3);rw[<-c6.out]at a2 a6;have ck:=zD (a2.far ((ξ xO _).drew) (λe=>e));have c9:=zD (a6.far ((ξ xO _).drew) (λe=>e));have av:=zD ((y.out.trans ((q.mono (D':=(·=g)) (λ_ _ e=>e.elim)).trans b3)).drew);have c4:=zD ((y.out.trans ((q.mono (D':=(·=g)) (λ_ _ e=>e.elim)).trans bk)).drew);clear c a2 a6 b3 bk q H
      go_wp2_with fail
      go_region
      all_goals (
       go_wp2_with fail
       go_roundw
       case rel=>
        refine⟨o,a::B,by rw[a0],by rw[<-G];simp,λN bb=>by simp at bb;rw[<-bb];exact ac,?_,?_⟩
        ·first|(with_reducible exact ck.out)|(with_reducible exact c9.out)
        ·first|(with_reducible exact av.out)|(with_reducible exact c4.out)
       case measure=>simp[Lib.intOf];omega)
     |false=>
      obtain⟨P,E⟩:∃P,za (Prod.fst p) (Prod.fst a)=P:=⟨_,rfl⟩;have e1:¬P < 0:=by rw[<-E];unfold za;rw[ac];simp;split<;>omega
      have b1:∀b,Calls π 169 #[γ #[V I p.1.k,V I p.1.n,U S,V I (p.2:Int)],γ #[V I a.1.k,V I a.1.n,U M,V I (a.2:Int)]] b λe w'=>e=ρ (V I P)/\Below b.heap.size b w':=λb=>E ▸ A.out b
      replace A:=zD b1
      clear E b1
      go_wp2_with fail
      go_region_held3 (λb=>b.cell? ⟨g,m * 4,O⟩=W (V I a.1.k)/\b.cell? ⟨g,m * 4+1,O⟩=W (V I a.1.n)/\b.cell? ⟨g,m * 4+2,O⟩=W (U M)/\b.cell? ⟨g,m * 4+3,O⟩=W (V I (a.2:Int))/\b.cell? ⟨g,k * 4,O⟩=W (V I p.1.k)/\b.cell? ⟨g,k * 4+1,O⟩=W (V I p.1.n)/\b.cell? ⟨g,k * 4+2,O⟩=W (U S)/\b.cell? ⟨g,k * 4+3,O⟩=W (V I (p.2:Int))) (exact ad.out _ (by repeat (first|exact ξ _ _|assumption|refine Far.drew ?_|refine Far.alloc ?_ _|refine Far.drewN ?_ _))) (first|(go_at_call 169;refine(A.out wr.drew).mono ?_;rintro e D ⟨rfl,H⟩;have q:Far xO wr D:=((ξ _ wr).drew).below H))
      have c:=c5.out (λx be=>by simp at be;rw[<-be];exact ac) D (by rw[ch.out];exact bn.out.far q (λe=>e));have av:=zD (y.out.trans (q.mono (D':=(·=g)) (λ_ _ e=>e.elim)));have a9:=zD c;clear c q H
      go_wp2_with fail
      go_roundw
      case rel=>exact⟨i+1,by go_num,by omega,by omega,a9.out,av.out⟩
      case measure=>simp[Lib.intOf];omega
  ·obtain rfl:i=f:=by omega
   have c:PR wr g ((yq Prod.fst l).flatMap pcs):=by
    rw[zR (by omega),List.drop_of_length_le (by omega)]at C
    simpa using C
   obtain⟨a9,y⟩:=zx2 c X;have cm:¬(i:Int) < (i:Int):=by omega
   clear c C X
   go_wp2_with fail
   go_end0
   exact⟨⟨_,rfl⟩,a9.out,y.out⟩
theorem qa(l:List (Tp.Sc × Nat))(g cap a:Nat)(q:l.length=a)(n:1<=a)(u:a < 20)(w:World)(j:PR w g (l.flatMap pcs)):
 Calls π 168 #[Y (W ⟨g,0,O⟩) a cap,φ (.func 169) #[] #[]] w λe w'=>(∃c,e=ρ c)/\PR w' g ((yq Prod.fst l).flatMap pcs)/\Far (·=g) w w':=by
 have k:=rr l g cap a q n (by omega) w j;have o:=zD k;have t:¬(20:Int)<=(a:Int):=by omega
 have s:¬(20:Int) < (a:Int):=by omega
 have r:¬20<=a:=by omega
 have v:¬20 < a:=by omega
 clear k j
 go_enter func168,ntmps168
 go_wp2_with fail
 have p:Calls π 217 #[Y (W ⟨g,0,O⟩) a cap,V I (a:Int),φ (.func 169) #[] #[]] w λe w'=>(∃c,e=ρ c)/\PR w' g ((yq Prod.fst l).flatMap pcs)/\Far (·=g) w w':=by
  go_enter func217,ntmps217
  go_wp2_with fail
  refine wp_loop_rounds 1 ?_;rw[rounds_succ]
  go_wp2_with fail
  refine o.out.mono ?_;rintro e m ⟨⟨c,rfl⟩,b,d⟩;obtain⟨i,f⟩:=zx2 b d;clear b d
  go_wp2_with fail
  refine wp_loop_rounds 1 ?_;rw[rounds_succ]
  go_wp2_with fail
  go_end0
  exact⟨⟨_,rfl⟩,i.out,f.out⟩
 refine p.mono ?_;rintro e m ⟨⟨c,rfl⟩,b,d⟩;obtain⟨i,f⟩:=zx2 b d;clear b d
 go_wp2_with fail
 go_end0
 exact⟨⟨_,rfl⟩,i.out,f.out⟩
theorem gK(g j:Nat):(⟨g,0,O⟩:Addr).add j=⟨g,j,O⟩:=by unfold Addr.add;split<;>simp_all
theorem bK{w:World}{base:Nat}{e:TypeId}{size g n cap:Nat}{xs:List Value}(a:w.ownsRow base e size (Y (W ⟨g,0,O⟩) n cap) n xs):PR w g xs:=by
 obtain⟨c,b⟩:=aU a;refine⟨c,e,b,λi d f=>?_⟩;have:=a.cells (g:=g) rfl i d f;rw[gK]at this;exact(ae b i).symm.trans this
theorem ja{w:World}{base:Nat}{e:TypeId}{size g n cap:Nat}{xs:List Value}(a:w.ownsRow base e size (Y (W ⟨g,0,O⟩) n cap) n xs):n<=cap/\cap<=maxLen:=by
 rcases a.2 with ⟨a,_⟩|⟨l,k,f,b,j,i,d,c,_⟩
 ·cases a
 ·injection b with b e1 e2
  subst e2;exact⟨d,c⟩
theorem vD:(prog.info? 262).map (λi=>(i.zero,i.size,i.bytes))=W (W (γ #[V I 0,V I 0,U ⟨#[]⟩,V I 0]),4,40):=by kernel_rfl
theorem oK(K k l c:Int)(a:ByteArray)(d f:Option Addr)(j g b i:Nat)(w:World)(m:K≠2):Calls π 122 #[γ #[V I K,V I k,V I l,U a,Y d j b,Y f g i,V I c]] w λe w'=>e=ρ (Y O 0 0)/\Below w.heap.size w w':=by
 have o:¬K=2:=m;have n:Below w.heap.size w (w.alloc (J #[V I K,V I k,V I l,U a,Y d j b,Y f g i,V I c] 256)):=(ζ _ _).alloc (η _) _
 go_enter func122,ntmps122
 go_wp2_with fail
 go_ret
 exact⟨rfl,n⟩
theorem oL(N P R:Int)(r:ByteArray)(E F:Option Addr)(H m a:Nat)(g:List Tp.Sc)(l:List Nat)(cc:NS)(w:World)(fl:g.length=a)(d4:l.length=a)(fr:1<=a)(eg:a < 20)(b6:Row w cc a (Y E a H) (xV g))(b5:Row w cc a (Y F a m) (xP l)):
 Calls π 122 #[γ #[V I 2,V I N,V I P,U r,Y E a H,Y F a m,V I R]] w λe w'=>(∃v,e=ρ v/\Row w' (New w) a v ((yq Prod.fst (g.zip l)).flatMap pcs))/\Below w.heap.size w w':=by
 obtain⟨er,e7,d5,fs,e1⟩:=info_parts vD;have ck:=λb=>cQ 2 N P R r E F a a H m b rfl;have a6:=af w (J #[V I 2,V I N,V I P,U r,Y E a H,Y F a m,V I R] 256);obtain⟨d,a9⟩:∃d,w.heap.size=d:=⟨_,rfl⟩;have f:Far xO w (w.alloc (J #[V I 2,V I N,V I P,U r,Y E a H,Y F a m,V I R] 256)):=(ξ _ w).alloc _;rw[a9]at a6;obtain⟨cv,ba,cb,bD,bs,ab⟩:=zx6 ck a6 f b6 b5 a9;obtain⟨dv,e0,fn,eq,dn,d6,ft,_⟩:=bd a6;clear ck a6 f b6 b5
 go_enter func122,ntmps122
 go_upto_region 1 with (fail)
 generalize (w.alloc (J #[V I 2,V I N,V I P,U r,Y E a H,Y F a m,V I R] 256))=f6 at *;clear a9
 go_wp2_with fail
 refine(cv.out _).mono ?_;rintro e e9 ⟨rfl,b4⟩;have db:=cb.out.below b4;have a5:=(b4.block d (lt_of_heap ba.out)).trans ba.out;obtain⟨a4,a1,an,c3,c4,c5,a3,_⟩:=bd a5;have f7:d < e9.heap.size:=lt_of_heap a5;obtain⟨d1,ds⟩:=zx2 db a5;clear b4 db a5 dv e0 fn eq dn d6 ft cb ba cv
 go_wp2_with fail
 go_loopw [3,19] (λe8 bx wr=>∃(t:Nat) (M:Option Addr) (L p:Nat),e8=Y M L p/\t<=a/\bx=V I (t:Int)/\wr.ownsRow (d+1) 262 4 (Y M L p) t (((g.zip l).take t).flatMap pcs)/\Far xO w wr/\wr.heap[d]? =W (J #[V I 2,V I N,V I P,U r,Y E a H,Y F a m,V I R] 256 (0,0))) (λ_ bx _=>a - (Lib.intOf bx).toNat)
 case atStart=>exact⟨0,_,_,_,rfl,z_ _,rfl,World.ownsRow_nil _ _ _ _,d1.out,ds.out⟩
 case round=>
  obtain⟨t,M,L,p,rfl,f4,rfl,y,z,al⟩:=hrel;by_cases ca:t < a
  ·obtain⟨x,be⟩:∃x,g[t]? =W x:=⟨_,zE (by rw[fl];exact ca)⟩
   obtain⟨G,bR⟩:∃x,l[t]? =W x:=⟨_,zE (by rw[d4];exact ca)⟩;obtain⟨gf,f2,f8,bk,_,f1,b3,b2,av⟩:=bD.out.sc be;obtain⟨X,a2,ge,co,_,gd,u⟩:=bs.out.nat bR;injection bk with e11 e12 e13;injection co with e21 e22 e23;subst e11 e13 e21 e23;obtain⟨SX,bn⟩:∃r,xR x.s=U r:=⟨_,rfl⟩;rw[bn]at av
   replace b3:=z.at b3 id
   replace b2:=z.at b2 id
   replace av:=z.at av id
   replace u:=z.at u id
   have es:((g.zip l).take (t+1)).flatMap pcs=((g.zip l).take t).flatMap pcs++[V I x.k,V I x.n,U SX,V I (G:Int)]:=by
    have:(g.zip l)[t]? =W (x,G):=by rw[List.getElem?_zip_eq_some];exact⟨be,bR⟩
    rw[zG,this,List.flatMap_append];simp[pcs,bn]
   have d3:(t:Int) < (a:Int):=by omega
   have f9:(0:Int)<=(t:Int):=by omega
   obtain⟨S,o,ac⟩:=zx3 y z al;obtain⟨a4,a1,an,c3,c4,c5,a3,_⟩:=bd al;clear y z al be bR bn bD bs
   go_upto_region 7 with (fail)
   obtain⟨q,d2⟩:∃q,wr.heap.size=q:=⟨_,rfl⟩;have bm:=af wr (J #[V I x.k,V I x.n,U SX] 30);have T:Far xO wr (wr.alloc (J #[V I x.k,V I x.n,U SX] 30)):=(ξ _ wr).alloc _;rw[d2]at bm ⊢;have b9:=aw S.out T (λ_ _ _ e=>e);have C:∀k,(Value.slice M L p).ownBlock=W k->d+1<=k/\k < q:=λk c=>by have:=S.out.lt k c;omega
   have gc:X < d:=by have:=ab.out;omega
   have bw:=T.heap ac.out (λe=>e);have cf:=o.out.trans T
   replace u:=T.at u id
   clear a4 a1 an c3 c4 c5 a3 T S ac o b3 b2 av;generalize (wr.alloc (J #[V I x.k,V I x.n,U SX] 30))=D at *;obtain⟨a4,a1,an,c3,c4,c5,a3,_⟩:=bd bw;obtain⟨ao,a0,ad,_⟩:=bv bm;obtain⟨S,ac,o⟩:=zx3 b9 bw cf;clear b9 bw cf a4 a1 an c3 c4 a3 bm;refine wp_region_noPanic ?_;refine ar (λb=>b.cell? ⟨d,5,O⟩=W (Y (W ⟨X,a2,O⟩) a m)/\b.cell? ⟨q,0,O⟩=W (V I x.k)/\b.cell? ⟨q,1,O⟩=W (V I x.n)/\b.cell? ⟨q,2,O⟩=W (U SX)/\b.cell? ⟨X,a2+t,O⟩=W (V I (G:Int))) [] (by kernel_rfl) ?_;refine aJ (by kernel_rfl) (λ_ _ _ _ c=>c) ⟨c5,ao,a0,ad,u⟩ 3 [0,1,2,3,4,5,6,7,8] _ _ (by kernel_rfl) ?_;iterate 9 (refine ax (v:=?_) ?_ ?_;rotate_left;·(intro f5 da;(try dsimp only at da);(try obtain⟨f3,fR,fz,gb,fG⟩:=da);go_simp;try with_reducible rfl);(try go_frame))
   refine xT.done ?_;try dsimp only
   refine aq [9] ?_;refine aj rfl (λK A=>?_) xQ.nil
   go_simp
   have f:Far xO D (D.drew.alloc (J #[V I x.k,V I x.n,U SX,V I (G:Int)] 262)):=(ξ _ D).drew.alloc _;refine A.out _ _ (λ_=>⟨f.at c5 id,f.at ao id,f.at a0 id,f.at ad id,f.at u id⟩) ?_;clear A K
   (try go_frame)
   refine aq [10] ?_;refine aj rfl (λK A=>?_) xQ.nil;refine wp_append_own _ (.tmp 24) (.tmp 33) 259 rfl (d+1) 262 er _ 4 40 underlying259 e7 d5 fs e1 rfl (by decide) (Y M L p) t _ rfl (aw S.out f (λ_ _ _ e=>e)) ⟨D.heap.size,0,O⟩ 1 1 [V I x.k,V I x.n,U SX,V I (G:Int)] ?_ rfl ?_ ?_ ?_ ?_ ?_ ?_
   ·rfl
   ·intro j ct d0
    rw[gK];exact(ae (af D.drew (J #[V I x.k,V I x.n,U SX,V I (G:Int)] 262)) j).trans (by simpa using d0)
   ·simp[Value.oneCell']
   ·unfold maxLen;omega
   ·omega
   ·have:=ab.out;have:=o.out.size;show d+1<=(D.drew.alloc _).heap.size;simp;omega
   intro ga w5 b1 dc _;have s:Far (λk=>(Value.slice M L p).ownBlock=W k) D w5:=(f.mono (λ_ _ e=>e.elim)).grown dc (λk e _=>e);have b8:(λb:World=>b.cell? ⟨d,5,O⟩=W (Y (W ⟨X,a2,O⟩) a m)/\b.cell? ⟨q,0,O⟩=W (V I x.k)/\b.cell? ⟨q,1,O⟩=W (V I x.n)/\b.cell? ⟨q,2,O⟩=W (U SX)/\b.cell? ⟨X,a2+t,O⟩=W (V I (G:Int))) w5:=⟨s.at c5 (λc=>by have:=C _ c;simp at this;omega),s.at ao (λc=>by have:=C _ c;simp at this),s.at a0 (λc=>by have:=C _ c;simp at this),s.at ad (λc=>by have:=C _ c;simp at this),s.at u (λc=>by have:=C _ c;simp at this;omega)⟩;have ch:=zD b8;clear b8;refine A.out _ _ (λ_=>ch.out) ?_;clear A K
   (try go_frame)
   obtain⟨gg,cap,rfl,e5,_⟩:=aA b1;have bb:=b1;rw[<-es]at bb;have c2:=o.out.step s (λk f0 e=>by have:=C _ e;have:=ab.out;omega);have df:=s.heap ac.out (λe=>by have:=C _ e;omega);obtain⟨e2,e6,en⟩:=zx3 bb c2 df;clear b1 bb dc s c2 df S o ac f c5 ao a0 ad u;refine aq [11] ?_;refine aj rfl (λK A=>?_) xQ.nil
   go_simp
   refine A.out _ _ (λ_=>ch.out) ?_;clear A K
   (try go_frame)
   refine aP (by kernel_rfl) (NoPanic.normal ?_) _
   go_wp2_with fail
   go_roundw
   case rel=>exact⟨t+1,_,_,_,rfl,by omega,by go_num,e2.out,e6.out,en.out⟩
   case measure=>simp[Lib.intOf];omega
  ·obtain rfl:t=a:=by omega
   have d3:¬(t:Int) < (t:Int):=by omega
   obtain⟨n,c6⟩:∃n,t=n+1:=⟨t - 1,by omega⟩;have dr:(g.zip l).length=t:=by rw[List.length_zip];omega
   rw[zR (by omega)]at y;obtain⟨gg,cap,e,e5,_⟩:=aA (n:=n) (by rw[<-c6];exact y);injection e with bk co e3;subst bk e3;rw[show L=t by omega]at y ⊢;have dp:=ja y;have c1:=qa (g.zip l) gg p t dr fr eg wr (bK y);obtain⟨c9,o⟩:=zx2 c1 z;clear c1 y z al bD bs c6
   go_wp2_with fail
   refine c9.out.mono ?_;rintro e fv ⟨⟨ct,rfl⟩,b0,cl⟩;have c0:Row fv (New w) t (Y (W ⟨gg,0,O⟩) t p) ((yq Prod.fst (g.zip l)).flatMap pcs):=⟨_,gg,0,p,rfl,dp,λ_=>by have:=ab.out;show w.heap.size<=gg;omega,λ_=>⟨rfl,b0.lt,λi ct e4=>by rw[Nat.zero_add];exact b0.cell e4⟩⟩;have cm:=o.out.new (by have:=ab.out;omega) cl;clear b0 cl c9 o;obtain⟨ex,ei⟩:=zx2 c0 cm;clear c0 cm
   go_wp2_with fail
   go_ret
   exact⟨⟨_,rfl,ex.out⟩,ei.out⟩
theorem og(w:World):Calls π 168 #[Y O 0 0,φ (.func 169) #[] #[]] w λe w'=>(∃a,e=ρ a)/\w'=w:=by
 have b:Calls π 249 #[Y O 0 0,V I 0,V I 0,φ (.func 169) #[] #[]] w λe w'=>(∃a,e=ρ a)/\w'=w:=by
  go_enter func249,ntmps249
  go_wp2_with fail
  refine wp_loop_rounds 1 ?_;rw[rounds_succ]
  go_wp2_with fail
  go_end0
  exact⟨⟨_,rfl⟩,rfl⟩
 have c:Calls π 217 #[Y O 0 0,V I 0,φ (.func 169) #[] #[]] w λe w'=>(∃a,e=ρ a)/\w'=w:=by
  have g:=zD b;clear b
  go_enter func217,ntmps217
  go_wp2_with fail
  refine wp_loop_rounds 1 ?_;rw[rounds_succ]
  go_wp2_with fail
  refine g.out.mono ?_;rintro e f ⟨⟨a,rfl⟩,rfl⟩
  go_wp2_with fail
  refine wp_loop_rounds 1 ?_;rw[rounds_succ]
  go_wp2_with fail
  go_end0
  exact⟨⟨_,rfl⟩,rfl⟩
 have d:=zD c;clear b c
 go_enter func168,ntmps168
 go_wp2_with fail
 refine d.out.mono ?_;rintro e f ⟨⟨a,rfl⟩,rfl⟩
 go_wp2_with fail
 go_end0
 exact⟨⟨_,rfl⟩,rfl⟩
theorem oJ(d f g:Int)(a:ByteArray)(i j:Option Addr)(c b:Nat)(w:World):Calls π 122 #[γ #[V I 2,V I d,V I f,U a,Y i 0 c,Y j 0 b,V I g]] w λe w'=>e=ρ (Y O 0 0)/\Below w.heap.size w w':=by
 have q:=λt=>cQ 2 d f g a i j 0 0 c b t rfl;have n:Below w.heap.size w (w.alloc (J #[V I 2,V I d,V I f,U a,Y i 0 c,Y j 0 b,V I g] 256)):=(ζ _ _).alloc (η _) _;have m:=af w (J #[V I 2,V I d,V I f,U a,Y i 0 c,Y j 0 b,V I g] 256);obtain⟨C,y,u,A,v,s,z,_⟩:=bd m;obtain⟨r,o,l⟩:=zx3 q n m;clear q n m
 go_enter func122,ntmps122
 go_wp2_with fail
 refine(r.out _).mono ?_;rintro e D ⟨rfl,k⟩;have p:=cR o.out k;obtain⟨E,F,G,c3,c4,c5,L,_⟩:=bd ((k.block w.heap.size (lt_of_heap l.out)).trans l.out);have x:=zD p;clear k p o l r C y u A v s z
 go_wp2_with fail
 refine wp_loop_rounds 1 ?_;rw[rounds_succ]
 go_wp2_with fail
 refine(og _).mono ?_;rintro e M ⟨⟨H,rfl⟩,rfl⟩
 go_wp2_with fail
 go_ret
 exact⟨rfl,x.out⟩
def yx(x:Tp.Nd):Prop:=x.keys.length < 20/\(x.k=2->x.keys.length=x.kids.length)/\x.kids.length<=100000
theorem cA(x:Tp.Nd)(kv j:Value)(n:Nat)(d:NS)(w:World)(k:Row w d x.keys.length kv (xV x.keys))(i:Row w d x.kids.length j (xP x.kids))(l:yx x):Calls π 122 #[yH x kv j n] w λe w'=>(∃v,e=ρ v/\Row w' (New w) (Tp.pairs x).length v ((Tp.pairs x).flatMap pcs))/\Below w.heap.size w w':=by
 obtain⟨u,t,rfl,_⟩:=k.form;obtain⟨y,s,rfl,_⟩:=i.form;unfold yH;by_cases a:x.k=2
 ·have g:=l.2.1 a
  have f:Tp.pairs x=Tp.sort (x.keys.zip x.kids):=by unfold Tp.pairs;rw[if_pos ⟨a,g⟩]
  rw[f,<-ce,a];rcases Nat.eq_zero_or_pos x.keys.length with b|b
  ·have r:x.kids.length=0:=by omega
   rw[b,r];have p:yq Prod.fst (x.keys.zip x.kids)=[]:=by rw[List.length_eq_zero_iff.1 b];rfl
   rw[p];refine(oJ _ _ _ _ _ _ _ _ w).mono ?_;rintro e w' ⟨rfl,c⟩;exact⟨⟨_,rfl,cy _ _⟩,c⟩
  ·have o:(yq Prod.fst (x.keys.zip x.kids)).length=x.keys.length:=by rw[cg,List.length_zip];omega
   rw[o];have m:=i;rw[<-g]at m ⊢;exact oL _ _ _ _ _ _ _ _ _ x.keys x.kids d w rfl g.symm b l.1 k m
 ·have f:Tp.pairs x=[]:=by unfold Tp.pairs;rw[if_neg (λq=>a q.1)]
  rw[f];refine(oK _ _ _ _ _ _ _ _ _ _ _ w a).mono ?_;rintro e w' ⟨rfl,c⟩;exact⟨⟨_,rfl,cy _ _⟩,c⟩
theorem uG:(prog.info? 30).map (λi=>(i.zero,i.size,i.bytes))=W (W (γ #[V I 0,V I 0,U ⟨#[]⟩]),3,32):=by kernel_rfl
theorem gI:(prog.info? 3).map (λi=>(i.zero,i.size,i.bytes))=W (W (V I 0),1,8):=by kernel_rfl
def pkid(p:Tp.Sc × Nat):List Value:=[V I (p.2:Int)]
def pkey(p:Tp.Sc × Nat):List Value:=scs p.1
theorem uC:∀(P:List (Tp.Sc × Nat)) (i:Nat) (p:Tp.Sc × Nat),P[i]? =W p->∀j,j < 4->(P.flatMap pcs)[i * 4+j]? =(pcs p)[j]?
 | [],i,p,h,j,hj=>by simp at h
 |q::r,0,p,h,j,hj=>by
  simp at h
  subst h;rw[List.flatMap_cons,Nat.zero_mul,Nat.zero_add,List.getElem?_append_left (by simp[pcs];omega)]
 |q::r,i+1,p,h,j,hj=>by
  have a:=uC r i p (by simpa using h) j hj;rw[List.flatMap_cons,zV (by simp[pcs];omega),<-a];congr 1
  simp[pcs]
  omega
theorem Row.pc{c:NS}{w:World}{n i:Nat}{v:Value}{P:List (Tp.Sc × Nat)}{p:Tp.Sc × Nat}(l:Row w c n v (P.flatMap pcs))(j:P[i]? =W p):∃g o cap,v=Y (W ⟨g,o,O⟩) n cap/\g < w.heap.size/\w.cell? ⟨g,o+i * 4,O⟩=W (V I p.1.k)/\w.cell? ⟨g,o+i * 4+1,O⟩=W (V I p.1.n)/\w.cell? ⟨g,o+i * 4+2,O⟩=W (xR p.1.s)/\w.cell? ⟨g,o+i * 4+3,O⟩=W (V I (p.2:Int)):=by
 obtain⟨s,g,o,cap,f,m,r,d⟩:=l;have q:=uC P i p j;have b:P.flatMap pcs≠[]:=λe=>by have:=q 0 (by omega);rw[e]at this;simp[pcs]at this
 obtain⟨rfl,k,a⟩:=d b;exact⟨g,o,cap,f,k,a _ _ (q 0 (by omega)),a _ _ (q 1 (by omega)),a _ _ (q 2 (by omega)),a _ _ (q 3 (by omega))⟩
theorem oW(G:Int)(x:Tp.Nd)(v kv T:Value)(n i:Nat)(N:NS)(w:World)(b:yN w N v n i x kv T)(a0:yx x)(b0:x.k≠1):Calls π 87 #[γ #[V I G,v],V I (i:Int)] w λe w'=>(∃S,e=ρ (.tuple #[S,V I 0])/\Row w' (New w) (Tp.pairs x).length S ((Tp.pairs x).flatMap pkid))/\Below w.heap.size w w':=by
 obtain⟨cl,c0,cf,c3,ct⟩:=info_parts gI;obtain⟨a,a5,b6,dr⟩:∃a a5,v=Y a n a5/\True:=by obtain⟨db,o,cap,e,_⟩:=b.cells;exact⟨_,_,e,trivial⟩
 have D:Below w.heap.size w (w.alloc (J #[V I G,v] 54)):=(ζ _ _).alloc (η _) _;have A:=cj G N v kv T n i x _ (b.below D);have y:=λW (q:Below w.heap.size w W)=>cA x kv T n N W ((b.below q).key) ((b.below q).kid) a0;obtain⟨R,ao,rfl,_⟩:=b.key.form;obtain⟨ad,E,rfl,_⟩:=b.kid.form;subst b6;unfold yH at A y;obtain⟨c,b3⟩:∃c,xR x.x.s=U c:=⟨_,rfl⟩;rw[b3]at A y;have a3:(Tp.pairs x).length < 20:=by
  unfold Tp.pairs;split
  ·rw[<-ce,cg,List.length_zip];have:=a0.1;omega
  ·simp
 obtain⟨a6,F,ba⟩:=zx3 A y D;obtain⟨P,bD⟩:∃P,Tp.pairs x=P:=⟨_,rfl⟩;rw[bD]at a3 F ⊢;have en:¬x.k=1:=b0;clear A y D b b3 a0 bD b0
 go_enter func87,ntmps87
 go_wp2_with fail
 refine a6.out.mono ?_;rintro e z ⟨rfl,b4⟩;have H:=cR ba.out b4;have bk:Below w.heap.size w (z.alloc (J #[V I x.k,V I x.x.k,V I x.x.n,U c,Y R x.keys.length ao,Y ad x.kids.length E,V I (n:Int)] 256)):=H.alloc H.size _;have r:=zD bk;clear b4 H bk a6 ba
 go_upto_region 2 with (fail)
 have bR:=af z (J #[V I x.k,V I x.x.k,V I x.x.n,U c,Y R x.keys.length ao,Y ad x.kids.length E,V I (n:Int)] 256);obtain⟨a4,bx,b1,bn,a1,a9,b2,_⟩:=bd bR;obtain⟨bb,q⟩:∃bb,z.heap.size=bb:=⟨_,rfl⟩;rw[q]at a4 bx b1 bn a1 a9 b2 ⊢;clear bR;generalize (z.alloc (J #[V I x.k,V I x.x.k,V I x.x.n,U c,Y R x.keys.length ao,Y ad x.kids.length E,V I (n:Int)] 256))=d4 at *;clear q
 go_wp2_with fail
 refine(F.out _ (by first|exact r.out)).mono ?_;rintro e d ⟨⟨S,rfl,m⟩,bw⟩;obtain⟨ds,da,rfl,_⟩:=m.form;have av:=r.out.trans (bw.mono r.out.size);obtain⟨X,ab⟩:=zx2 m av;have d0:=av.size;have eg:=r.out.size;clear m bw av F r a4 bx b1 bn a1 a9 b2;obtain⟨g,b5⟩:∃g,P.length=g:=⟨_,rfl⟩;rw[b5]at a3 X ⊢
 go_wp2_with fail
 go_loopw [8,33] (λc1 M wr=>∃(t:Nat) (u:Option Addr) (s C:Nat),c1=Y u s C/\t<=g/\M=V I (t:Int)/\wr.ownsRow d.heap.size 3 1 (Y u s C) t ((P.take t).flatMap pkid)/\Below d.heap.size d wr) (λ_ M _=>g - (Lib.intOf M).toNat)
 case atStart=>exact⟨0,_,_,_,rfl,z_ _,rfl,World.ownsRow_nil _ _ _ _,ζ _ _⟩
 case round=>
  obtain⟨t,u,s,C,rfl,dv,rfl,l,f⟩:=hrel;by_cases cc:t < g
  ·obtain⟨p,an⟩:∃p,P[t]? =some p:=⟨_,zE (by rw[b5];exact cc)⟩
   obtain⟨ex,dp,d2,b9,dn,es,ei,b8,d1⟩:=(X.out.below f).pc an;injection b9 with e11 e12 e13;subst e11 e13;obtain⟨SX,L⟩:∃c,xR p.1.s=U c:=⟨_,rfl⟩;rw[L]at b8;have bs:(P.take (t+1)).flatMap pkid=(P.take t).flatMap pkid++[V I (p.2:Int)]:=by
    rw[zG,an,List.flatMap_append];simp[pkid,L]
   have cb:(t:Int) < (g:Int):=by omega
   have d6:(0:Int)<=(t:Int):=by omega
   have bm:Below d.heap.size d ((wr.alloc (J #[V I p.1.k,V I p.1.n,U SX,V I (p.2:Int)] 262)).alloc (J #[V I (p.2:Int)] 3)):=(f.alloc f.size _).alloc (by have:=f.size;simp;omega) _;have a2:=aw (aw l ((ξ xO _).alloc (J #[V I p.1.k,V I p.1.n,U SX,V I (p.2:Int)] 262)) (λ_ _ _ e=>e)) ((ξ xO _).alloc (J #[V I (p.2:Int)] 3)) (λ_ _ _ e=>e);have be:=l.lt;obtain⟨cm,al,ck,cv⟩:=zx4 a2 bm be bs;clear l a2 bm f an L be bs
   go_wp2_with (at_builtin;refine wpList_append_own _ rfl (.tmp 37) (.tmp 40) 122 rfl d.heap.size 3 cl _ 1 8 underlying122 c0 cf c3 ct rfl (by decide) (Y u s C) t _ rfl cm.out ⟨wr.heap.size+1,0,O⟩ 1 1 [V I (p.2:Int)] rfl rfl (λj d5 ca=>by rw[gK];exact(ae (ah _ _ _ (by simp)) j).trans (by simpa using ca)) (by simp[Value.oneCell']) (by unfold maxLen;omega) (by omega) (Nat.le_trans al.out.size (η _)) ?_;intro eq w5 ac c5 _)
   obtain⟨gg,cap,rfl,d3,_⟩:=aA ac;rw[<-cv.out]at ac;have c4:=al.out.grown c5 al.out.size (λk e=>(ck.out k e).1)
   go_roundw
   case rel=>exact⟨t+1,_,_,_,rfl,by omega,by go_num,ac,c4⟩
   case measure=>simp[Lib.intOf];omega
  ·obtain rfl:t=g:=by omega
   have cb:¬(t:Int) < (t:Int):=by omega
   rw[zR (by omega)]at l;have m:=az l;have ch:s=t:=by
    rcases l.2 with ⟨b,er⟩|⟨c6,dc,c9,b,_⟩
    ·injection b with h1 h2 h3
     omega
    ·injection b
   subst ch;have co:=zD (m.mono (G':=New w) (λk (df:d.heap.size<=k) _=>(by show w.heap.size<=k;omega)));have c2:=zD (ab.out.trans (f.mono ab.out.size));clear l m f X ab
   go_wp2_with fail
   go_ret2
   exact⟨⟨_,rfl,co.out⟩,c2.out⟩
theorem oY(G:Int)(x:Tp.Nd)(v kv T:Value)(n i:Nat)(N:NS)(w:World)(b:yN w N v n i x kv T)(a0:yx x):Calls π 86 #[γ #[V I G,v],V I (i:Int)] w λe w'=>(∃S,e=ρ (.tuple #[S,V I 0])/\Row w' (New w) (Tp.pairs x).length S ((Tp.pairs x).flatMap pkey))/\Below w.heap.size w w':=by
 obtain⟨ck,cv,cc,c2,co⟩:=info_parts uG;obtain⟨a,a5,b5,dp⟩:∃a a5,v=Y a n a5/\True:=by obtain⟨da,o,cap,e,_⟩:=b.cells;exact⟨_,_,e,trivial⟩
 have D:Below w.heap.size w (w.alloc (J #[V I G,v] 54)):=(ζ _ _).alloc (η _) _;have A:=cj G N v kv T n i x _ (b.below D);have y:=λW (q:Below w.heap.size w W)=>cA x kv T n N W ((b.below q).key) ((b.below q).kid) a0;obtain⟨R,ao,rfl,_⟩:=b.key.form;obtain⟨ad,E,rfl,_⟩:=b.kid.form;subst b5;unfold yH at A y;obtain⟨c,b2⟩:∃c,xR x.x.s=U c:=⟨_,rfl⟩;rw[b2]at A y;have a3:(Tp.pairs x).length < 20:=by
  unfold Tp.pairs;split
  ·rw[<-ce,cg,List.length_zip];have:=a0.1;omega
  ·simp
 obtain⟨a6,F,ba⟩:=zx3 A y D;obtain⟨P,bD⟩:∃P,Tp.pairs x=P:=⟨_,rfl⟩;rw[bD]at a3 F ⊢;clear A y D b b2 a0 bD
 go_enter func86,ntmps86
 go_wp2_with fail
 refine a6.out.mono ?_;rintro e z ⟨rfl,b3⟩;have H:=cR ba.out b3;have bk:Below w.heap.size w (z.alloc (J #[V I x.k,V I x.x.k,V I x.x.n,U c,Y R x.keys.length ao,Y ad x.kids.length E,V I (n:Int)] 256)):=H.alloc H.size _;have r:=zD bk;clear b3 H bk a6 ba
 go_upto_region 3 with (fail)
 have bR:=af z (J #[V I x.k,V I x.x.k,V I x.x.n,U c,Y R x.keys.length ao,Y ad x.kids.length E,V I (n:Int)] 256);obtain⟨a4,bx,b0,bn,a1,a9,b1,_⟩:=bd bR;obtain⟨bb,q⟩:∃bb,z.heap.size=bb:=⟨_,rfl⟩;rw[q]at a4 bx b0 bn a1 a9 b1 ⊢;clear bR;generalize (z.alloc (J #[V I x.k,V I x.x.k,V I x.x.n,U c,Y R x.keys.length ao,Y ad x.kids.length E,V I (n:Int)] 256))=d3 at *;clear q
 go_wp2_with fail
 refine(F.out _ (by first|exact r.out)).mono ?_;rintro e d ⟨⟨S,rfl,m⟩,bw⟩;obtain⟨dr,c9,rfl,_⟩:=m.form;have av:=r.out.trans (bw.mono r.out.size);obtain⟨X,ab⟩:=zx2 m av;have dv:=av.size;have d6:=r.out.size;clear m bw av F r a4 bx b0 bn a1 a9 b1;obtain⟨g,b4⟩:∃g,P.length=g:=⟨_,rfl⟩;rw[b4]at a3 X ⊢
 go_wp2_with fail
 go_loopw [8,20] (λc0 M wr=>∃(t:Nat) (u:Option Addr) (s C:Nat),c0=Y u s C/\t<=g/\M=V I (t:Int)/\wr.ownsRow d.heap.size 30 3 (Y u s C) t ((P.take t).flatMap pkey)/\Below d.heap.size d wr) (λ_ M _=>g - (Lib.intOf M).toNat)
 case atStart=>exact⟨0,_,_,_,rfl,z_ _,rfl,World.ownsRow_nil _ _ _ _,ζ _ _⟩
 case round=>
  obtain⟨t,u,s,C,rfl,ds,rfl,l,f⟩:=hrel;by_cases cb:t < g
  ·obtain⟨p,an⟩:∃p,P[t]? =some p:=⟨_,zE (by rw[b4];exact cb)⟩
   obtain⟨er,dn,d1,b8,df,eq,eg,b6,d0⟩:=(X.out.below f).pc an;injection b8 with e11 e12 e13;subst e11 e13;obtain⟨SX,L⟩:∃c,xR p.1.s=U c:=⟨_,rfl⟩;rw[L]at b6;have bs:(P.take (t+1)).flatMap pkey=(P.take t).flatMap pkey++[V I p.1.k,V I p.1.n,U SX]:=by
    rw[zG,an,List.flatMap_append];simp[pkey,scs,L]
   have ca:(t:Int) < (g:Int):=by omega
   have d5:(0:Int)<=(t:Int):=by omega
   have bm:Below d.heap.size d ((wr.alloc (J #[V I p.1.k,V I p.1.n,U SX,V I (p.2:Int)] 262)).alloc (J #[V I p.1.k,V I p.1.n,U SX] 30)):=(f.alloc f.size _).alloc (by have:=f.size;simp;omega) _;have a2:=aw (aw l ((ξ xO _).alloc (J #[V I p.1.k,V I p.1.n,U SX,V I (p.2:Int)] 262)) (λ_ _ _ e=>e)) ((ξ xO _).alloc (J #[V I p.1.k,V I p.1.n,U SX] 30)) (λ_ _ _ e=>e);have be:=l.lt;obtain⟨cl,al,ch,ct⟩:=zx4 a2 bm be bs;clear l a2 bm f an L be bs
   go_wp2_with (at_builtin;refine wpList_append_own _ rfl (.tmp 24) (.tmp 27) 28 rfl d.heap.size 30 ck _ 3 32 underlying28 cv cc c2 co rfl (by decide) (Y u s C) t _ rfl cl.out ⟨wr.heap.size+1,0,O⟩ 1 1 [V I p.1.k,V I p.1.n,U SX] rfl rfl (λj d4 b9=>by rw[gK];exact(ae (ah _ _ _ (by simp)) j).trans (by simpa using b9)) (by simp[Value.oneCell']) (by unfold maxLen;omega) (by omega) (Nat.le_trans al.out.size (η _)) ?_;intro ei w5 ac c4 _)
   obtain⟨gg,cap,rfl,d2,_⟩:=aA ac;rw[<-ct.out]at ac;have c3:=al.out.grown c4 al.out.size (λk e=>(ch.out k e).1)
   go_roundw
   case rel=>exact⟨t+1,_,_,_,rfl,by omega,by go_num,ac,c3⟩
   case measure=>simp[Lib.intOf];omega
  ·obtain rfl:t=g:=by omega
   have ca:¬(t:Int) < (t:Int):=by omega
   rw[zR (by omega)]at l;have m:=az l;have cf:s=t:=by
    rcases l.2 with ⟨b,en⟩|⟨c5,db,c6,b,_⟩
    ·injection b with h1 h2 h3
     omega
    ·injection b
   subst cf;have cm:=zD (m.mono (G':=New w) (λk (dc:d.heap.size<=k) _=>(by show w.heap.size<=k;omega)));have c1:=zD (ab.out.trans (f.mono ab.out.size));clear l m f X ab
   go_wp2_with fail
   go_ret2
   exact⟨⟨_,rfl,cm.out⟩,c1.out⟩
theorem iZ:∀P:List (Tp.Sc × Nat),P.flatMap pkid=xP (P.map (·.2))
 | []=>rfl
 |p::r=>by rw[List.flatMap_cons,iZ r];rfl
theorem qI:∀P:List (Tp.Sc × Nat),P.flatMap pkey=xV (P.map (·.1))
 | []=>rfl
 |p::r=>by rw[List.flatMap_cons,qI r];rfl
theorem bS(b:Int)(x:Tp.Nd)(v kv d:Value)(n i:Nat)(a:NS)(w:World)(f:yN w a v n i x kv d)(g:yx x):Calls π 86 #[γ #[V I b,v],V I (i:Int)] w λe w'=>(∃c,e=ρ (.tuple #[c,V I 0])/\Row w' (New w) (Tp.keysOf x).length c (xV (Tp.keysOf x)))/\Below w.heap.size w w':=by
 have:=oY b x v kv d n i a w f g;rw[qI]at this;unfold Tp.keysOf;rw[List.length_map];exact this
theorem qX(C:Int)(x:Tp.Nd)(v kv S:Value)(n i:Nat)(M:NS)(w:World)(b:yN w M v n i x kv S)(a2:yx x)(ac:x.k=1):Calls π 87 #[γ #[V I C,v],V I (i:Int)] w λe w'=>(∃m,e=ρ (.tuple #[m,V I 0])/\Row w' (New w) x.kids.length m (xP x.kids))/\Below w.heap.size w w':=by
 obtain⟨a,G,a3,b9⟩:∃a G,v=Y a n G/\True:=by obtain⟨b4,o,cap,e,_⟩:=b.cells;exact⟨_,_,e,trivial⟩
 have A:Below w.heap.size w (w.alloc (J #[V I C,v] 54)):=(ζ _ _).alloc (η _) _;have s:=cj C M v kv S n i x _ (b.below A);obtain⟨E,F,rfl,_⟩:=b.key.form;have al:=b.kid;obtain⟨r,f,rfl,_⟩:=b.kid.form;subst a3;have a1:∀c,Below w.heap.size w c->Calls π 123 #[Y r x.kids.length f] c λe w'=>(∃m,e=ρ m/\Row w' (New c) x.kids.length m (xP x.kids))/\Below c.heap.size c w':=by
  intro c l;have u:=al.below l;rcases Nat.eq_zero_or_pos x.kids.length with z|z
  ·rw[z,List.length_eq_zero_iff.1 z]
   cases r with
   |none=>exact(slices_Clone_int_nil 0 f c).mono (λe w' b=>⟨⟨_,b.1,cy _ _⟩,by rw[b.2];exact ζ _ _⟩)
   |some ad=>exact(slices_Clone_int_zero ad f c).mono (λe w' b=>by obtain⟨bx,rfl,t,_,l⟩:=b;exact⟨⟨_,rfl,az t⟩,l⟩)
  ·obtain⟨b8,bw⟩:∃b0,x.kids[0]? =W b0:=⟨_,zE z⟩
   obtain⟨g,o,cap,e,_,b6,_⟩:=u.nat bw;injection e with d e2 e3;subst d e3;refine(slices_Clone_int g o x.kids.length f (x.kids.map λi:Nat=>(i:Int)) c (by simp) (by have:=a2.2.2;omega) (λj a6=>?_)).mono (λe w' b=>?_)
   ·have an:j < x.kids.length:=by simpa using a6
    obtain⟨b2,ca,b5,bR,_,_,a9⟩:=u.nat (i:=j) (x:=x.kids[j]) (zE an);injection bR with d e2 e3;injection d with d;injection d with d e4;subst d e4;rw[a9];simp[an,zY]
   ·obtain⟨bx,rfl,t,_,be⟩:=b
    have d:((x.kids.map λi:Nat=>(i:Int)).take x.kids.length).map (Value.int I)=xP x.kids:=by
     rw[zR (by simp),List.map_map];rfl
    rw[d]at t;exact⟨⟨_,rfl,az t⟩,be⟩
 unfold yH at s;obtain⟨p,av⟩:∃p,xR x.x.s=U p:=⟨_,rfl⟩;rw[av]at s;rw[ac]at s;obtain⟨H,ao,L⟩:=zx3 s a1 A;clear s a1 A b av a2 al ac
 go_enter func87,ntmps87
 go_wp2_with fail
 refine H.out.mono ?_;rintro e y ⟨rfl,a0⟩;have D:=cR L.out a0;have P:Below w.heap.size w (y.alloc (J #[V I 1,V I x.x.k,V I x.x.n,U p,Y E x.keys.length F,Y r x.kids.length f,V I (n:Int)] 256)):=D.alloc D.size _;have q:=zD P;clear a0 D P H L
 go_upto_region 2 with (fail)
 have ab:=af y (J #[V I 1,V I x.x.k,V I x.x.n,U p,Y E x.keys.length F,Y r x.kids.length f,V I (n:Int)] 256);obtain⟨a5,bn,bD,bb,a4,ba,b1,_⟩:=bd ab;obtain⟨N,l⟩:∃N,y.heap.size=N:=⟨_,rfl⟩;rw[l]at a5 bn bD bb a4 ba b1 ⊢;clear ab;generalize (y.alloc (J #[V I 1,V I x.x.k,V I x.x.n,U p,Y E x.keys.length F,Y r x.kids.length f,V I (n:Int)] 256))=bs at *;clear l
 go_wp2_with fail
 refine(ao.out _ (by first|exact q.out)).mono ?_;rintro e b3 ⟨⟨m,rfl,X⟩,R⟩;have T:=X.mono (G':=New w) (λk (u:bs.heap.size<=k) _=>Nat.le_trans q.out.size u);have bm:=zD (q.out.trans (R.mono q.out.size));have bk:=zD T;clear X T R q ao
 go_wp2_with fail
 go_ret2
 exact⟨⟨_,rfl,bk.out⟩,bm.out⟩
theorem bQ(b:Int)(x:Tp.Nd)(v kv d:Value)(n i:Nat)(c:NS)(w:World)(g:yN w c v n i x kv d)(j:yx x):Calls π 87 #[γ #[V I b,v],V I (i:Int)] w λe w'=>(∃f,e=ρ (.tuple #[f,V I 0])/\Row w' (New w) (Tp.kidsOf x).length f (xP (Tp.kidsOf x)))/\Below w.heap.size w w':=by
 unfold Tp.kidsOf;by_cases a:x.k=1
 ·rw[if_pos a]
  exact qX b x v kv d n i c w g j a
 ·rw[if_neg a]
  have:=oW b x v kv d n i c w g j a;rw[iZ]at this;rw[List.length_map];exact this
theorem pp(f:List Nat)(q v:Value)(m:NS)(w:World)(k:Row w m f.length q (xP f))(j:Row w m f.length v (xP f)):Calls π 172 #[q,v] w λe w'=>e=ρ (β true)/\Far xO w w':=by
 obtain⟨a,ab,rfl,o⟩:=k.form;obtain⟨S,d,rfl,_⟩:=j.form;have C:f.length<=9223372036854775807:=o;obtain⟨c,p⟩:∃c,f.length=c:=⟨_,rfl⟩;obtain⟨n,r⟩:=zx2 k j;rw[p]at n r C ⊢;have N:∀b,(binOp .neq 3 (V I (c:Int)) (V I (c:Int))).run π b=.ok (β false) b:=λb=>by simp[go_sem]
 clear k j o
 go_enter func172,ntmps172
 go_wp2_with fail
 go_loopw [13] (λs wr=>∃t:Nat,t<=c/\s=V I (t:Int)/\Far xO w wr) (λs _=>c - (Lib.intOf s).toNat)
 case atStart=>exact⟨0,z_ _,rfl,ξ _ _⟩
 case round=>
  obtain⟨t,X,rfl,g⟩:=hrel;by_cases y:t < c
  ·obtain⟨x,l⟩:∃x,f[t]? =W x:=⟨_,zE (by rw[p];exact y)⟩
   obtain⟨G,F,P,M,_,_,A⟩:=(n.out.far g (λ_ _ _ e=>e)).nat l;obtain⟨z,D,R,E,_,_,H⟩:=(r.out.far g (λ_ _ _ e=>e)).nat l;injection M with e11 e12 e13;injection E with e21 e22 e23;subst e11 e13 e21 e23;have u:(t:Int) < (c:Int):=by omega
   have ac:(0:Int)<=(t:Int):=by omega
   have T:∀b,(binOp .neq 3 (V I (x:Int)) (V I (x:Int))).run π b=.ok (β false) b:=λb=>by simp[go_sem]
   have i:=zD g;clear g l
   go_wp2_with fail
   go_region_held3 (λb=>b.cell? ⟨G,F+t,O⟩=W (V I (x:Int))/\b.cell? ⟨z,D+t,O⟩=W (V I (x:Int))) (exact⟨A,H⟩) (fail)
   have L:=i.out.drew;clear i
   go_wp2_with fail
   go_roundw
   case rel=>exact⟨t+1,by omega,by go_num,L⟩
   case measure=>simp[Lib.intOf];omega
  ·have u:¬(t:Int) < (c:Int):=by omega
   have i:=zD g;clear g
   go_wp2_with fail
   go_ret
   exact⟨rfl,i.out⟩
theorem po(f:List Tp.Sc)(z v:Value)(q:NS)(w:World)(l:Row w q f.length z (xV f))(j:Row w q f.length v (xV f)):Calls π 171 #[z,v] w λe w'=>e=ρ (β true)/\Far xO w w':=by
 obtain⟨a,av,rfl,u⟩:=l.form;obtain⟨an,d,rfl,_⟩:=j.form;have N:f.length<=9223372036854775807:=u;obtain⟨c,y⟩:∃c,f.length=c:=⟨_,rfl⟩;obtain⟨r,A⟩:=zx2 l j;rw[y]at r A N ⊢;have ab:∀b,(binOp .neq 3 (V I (c:Int)) (V I (c:Int))).run π b=.ok (β false) b:=λb=>by simp[go_sem]
 clear l j u
 go_enter func171,ntmps171
 go_wp2_with fail
 go_loopw [13] (λs wr=>∃t:Nat,t<=c/\s=V I (t:Int)/\Far xO w wr) (λs _=>c - (Lib.intOf s).toNat)
 case atStart=>exact⟨0,z_ _,rfl,ξ _ _⟩
 case round=>
  obtain⟨t,ao,rfl,g⟩:=hrel;by_cases L:t < c
  ·obtain⟨x,p⟩:∃x,f[t]? =W x:=⟨_,zE (by rw[y];exact L)⟩
   obtain⟨o,n,ad,T,_,_,M,F,C⟩:=(r.out.far g (λ_ _ _ e=>e)).sc p;obtain⟨k,m,al,P,_,_,R,X,D⟩:=(A.out.far g (λ_ _ _ e=>e)).sc p;injection T with e11 e12 e13;injection P with e21 e22 e23;subst e11 e13 e21 e23;have G:(t:Int) < (c:Int):=by omega
   have a0:(0:Int)<=(t:Int):=by omega
   obtain⟨SX,E⟩:∃H,xR x.s=U H:=⟨_,rfl⟩;rw[E]at C D;have ac:eqL x.k x.n SX x.k x.n SX=true:=by rw[jp];simp
   clear E;have i:=zD g;clear g p
   go_wp2_with fail
   go_region_held3 (λb=>b.cell? ⟨o,n+t * 3,O⟩=W (V I x.k)/\b.cell? ⟨o,n+t * 3+1,O⟩=W (V I x.n)/\b.cell? ⟨o,n+t * 3+2,O⟩=W (U SX)/\b.cell? ⟨k,m+t * 3,O⟩=W (V I x.k)/\b.cell? ⟨k,m+t * 3+1,O⟩=W (V I x.n)/\b.cell? ⟨k,m+t * 3+2,O⟩=W (U SX)) (exact⟨M,F,C,R,X,D⟩) (fail)
   have S:=i.out.drew;clear i
   go_wp2_with fail
   go_roundw
   case rel=>exact⟨t+1,by omega,by go_num,S⟩
   case measure=>simp[Lib.intOf];omega
  ·have G:¬(t:Int) < (c:Int):=by omega
   have i:=zD g;clear g
   go_wp2_with fail
   go_ret
   exact⟨rfl,i.out⟩
theorem ou(K d f:Int)(c:ByteArray)(r:List Tp.Sc)(t:List Nat)(o p g n:Option Addr)(b a m i l q:Nat)(k:NS)(w:World)(x:b=r.length)(z:a=t.length)(F:Row w k b (Y o b m) (xV r))(C:Row w k a (Y p a i) (xP t))(N:Row w k b (Y g b l) (xV r))(D:Row w k a (Y n a q) (xP t)):
 Calls π 170 #[(γ #[V I K,V I d,V I f,U c,Y o b m,Y p a i]),(γ #[V I K,V I d,V I f,U c,Y g b l,Y n a q])] w λe w'=>e=ρ (β true)/\Far xO w w':=by
 have s:Far xO w ((w.alloc (J #[V I K,V I d,V I f,U c,Y o b m,Y p a i] 185)).alloc (J #[V I K,V I d,V I f,U c,Y g b l,Y n a q] 185)):=((ξ _ w).alloc _).alloc _;have v:=aa (J #[V I K,V I d,V I f,U c,Y g b l,Y n a q] 185) (af w (J #[V I K,V I d,V I f,U c,Y o b m,Y p a i] 185));have A:=ah (w.alloc (J #[V I K,V I d,V I f,U c,Y o b m,Y p a i] 185)) (J #[V I K,V I d,V I f,U c,Y g b l,Y n a q] 185) (w.heap.size+1) (by simp);have R:=po r (Y o b m) (Y g b l) k _ (by rw[<-x];exact F.far s (λ_ _ _ e=>e)) (by rw[<-x];exact N.far s (λ_ _ _ e=>e));have T:=λj (H:Far xO w j)=>pp t (Y p a i) (Y n a q) k j (by rw[<-z];exact C.far H (λ_ _ _ e=>e)) (by rw[<-z];exact D.far H (λ_ _ _ e=>e));have a9:eqL d f c d f c=true:=by rw[jp];simp
 have ba:∀j,(binOp .eql 3 (V I K) (V I K)).run π j=.ok (β true) j:=λj=>by simp[go_sem]
 obtain⟨a3,av,al,a1,an,ab,_⟩:=pE v;obtain⟨a4,ad,a5,ao,a2,a0,_⟩:=pE A;obtain⟨P,M,G,S,L⟩:=zx5 R T s v A;clear R T s v A F C N D x z
 go_enter func170,ntmps170
 go_wp2_with fail
 refine P.out.mono ?_;rintro e a6 ⟨rfl,u⟩;have bb:=ae (u.heap S.out id) 5;have u5:=ae (u.heap L.out id) 5;have E:=G.out.trans u;have y:=zD E;clear u E P G S L a3 av al a1 an ab a4 ad a5 ao a2 a0
 go_wp2_with fail
 refine(M.out _ y.out).mono ?_;rintro e be ⟨rfl,X⟩;have ac:=y.out.trans X;clear X M y
 go_wp2_with fail
 go_ret
 exact⟨rfl,ac⟩
theorem qp(g:List Tp.Nd)(S v:Value)(r:NS)(w:World)(A:yc w r g S)(y:yc w r g v):Calls π 173 #[S,v,φ (.func 170) #[] #[]] w λe w'=>e=ρ (β true)/\Far xO w w':=by
 obtain⟨a,a9,rfl,M⟩:=A.form;obtain⟨bm,d,rfl,_⟩:=y.form;have a3:g.length<=9223372036854775807:=M;obtain⟨b,an⟩:∃b,g.length=b:=⟨_,rfl⟩;obtain⟨F,T⟩:=zx2 A y;rw[an]at F T a3 ⊢;have a4:∀o,(binOp .neq 3 (V I (b:Int)) (V I (b:Int))).run π o=.ok (β false) o:=λo=>by simp[go_sem]
 clear A y M
 go_enter func173,ntmps173
 go_wp2_with fail
 go_loopw [17] (λs wr=>∃t:Nat,t<=b/\s=V I (t:Int)/\Far xO w wr) (λs _=>b - (Lib.intOf s).toNat)
 case atStart=>exact⟨0,z_ _,rfl,ξ _ _⟩
 case round=>
  obtain⟨t,bn,rfl,j⟩:=hrel;by_cases a0:t < b
  ·obtain⟨x,p⟩:∃x,g[t]? =W x:=⟨_,zE (by rw[an];exact a0)⟩
   obtain⟨kv,bs,f⟩:=(F.out.far j (λ_ _ _ e=>e)).at p;obtain⟨bx,a6,l⟩:=(T.out.far j (λ_ _ _ e=>e)).at p;obtain⟨b3,bk,bw,ao,ba,bD,be,a5,c3,c4,c5⟩:=f.cells;obtain⟨b0,bb,b2,a2,b1,E,L,D,q,N,R⟩:=l.cells;injection ao with e11 e12 e13;injection a2 with e21 e22 e23;clear e12 e22;subst e11 e13 e21 e23;obtain⟨u,C,rfl,_⟩:=f.key.form;obtain⟨z,n,rfl,_⟩:=f.kid.form;obtain⟨H,ab,rfl,_⟩:=l.key.form;obtain⟨ad,X,rfl,_⟩:=l.kid.form;obtain⟨i,al⟩:∃i,xR x.x.s=U i:=⟨_,rfl⟩;rw[al]at c3 q;have c:Far xO wr (wr.alloc (J #[V I x.k,V I x.x.k,V I x.x.n,U i,Y u x.keys.length C,Y z x.kids.length n] 185)):=(ξ _ wr).alloc _;have k:Far xO wr ((wr.alloc (J #[V I x.k,V I x.x.k,V I x.x.n,U i,Y u x.keys.length C,Y z x.kids.length n] 185)).alloc (J #[V I x.k,V I x.x.k,V I x.x.n,U i,Y H x.keys.length ab,Y ad x.kids.length X] 185)):=c.alloc _;have G:=ou x.k x.x.k x.x.n i x.keys x.kids u z H ad _ _ C n ab X r _ rfl rfl (f.key.far k (λ_ _ _ e=>e)) (f.kid.far k (λ_ _ _ e=>e)) (l.key.far k (λ_ _ _ e=>e)) (l.kid.far k (λ_ _ _ e=>e))
   replace E:=c.at E id
   replace L:=c.at L id
   replace D:=c.at D id
   replace q:=c.at q id
   replace N:=c.at N id
   replace R:=c.at R id
   have av:(t:Int) < (b:Int):=by omega
   have bR:(0:Int)<=(t:Int):=by omega
   have ac:=zD G;have m:=zD (j.trans k);clear j p G c k f l al
   go_wp2_with fail
   refine ac.out.mono ?_;rintro e b4 ⟨rfl,P⟩;have a1:=m.out.trans P;clear P ac m
   go_wp2_with fail
   go_roundw
   case rel=>exact⟨t+1,by omega,by go_num,a1⟩
   case measure=>simp[Lib.intOf];omega
  ·have av:¬(t:Int) < (b:Int):=by omega
   have m:=zD j;clear j
   go_wp2_with fail
   go_ret
   exact⟨rfl,m.out⟩
theorem tg(b:Int)(g:List Tp.Nd)(f v:Value)(k:NS)(w:World)(l:yc w k g f)(i:yc w k g v):Calls π 125 #[γ #[V I b,f],γ #[V I b,v]] w λe w'=>e=ρ (β true)/\Far xO w w':=by
 have c:Far xO w ((w.alloc (J #[V I b,f] 54)).alloc (J #[V I b,v] 54)):=((ξ _ w).alloc _).alloc _;have o:=qp g f v k _ (l.far c (λ_ _ _ e=>e)) (i.far c (λ_ _ _ e=>e));obtain⟨a,u,rfl,_⟩:=l.form;obtain⟨t,d,rfl,_⟩:=i.form;have s:∀j,(binOp .eql 3 (V I b) (V I b)).run π j=.ok (β true) j:=λj=>by simp[go_sem]
 obtain⟨n,m⟩:=zx2 o c;clear o c l i
 go_enter func125,ntmps125
 go_wp2_with fail
 refine n.out.mono ?_;rintro e r ⟨rfl,p⟩;have q:=m.out.trans p;clear p n m
 go_wp2_with fail
 go_ret
 exact⟨rfl,q⟩
section
attribute [local go_sem] ak
theorem mo{w:World}{base:Nat}{e:TypeId}{g n m cap:Nat}{xs:List Value}(b:w.ownsRow base e 1 (Y (W ⟨g,0,O⟩) n cap) n xs)(s:m<=n):w.ownsRow base e 1 (Y (W ⟨g,0,O⟩) m cap) m (xs.take m):=by
 obtain⟨k,l⟩:=b;rcases l with ⟨b,_⟩|⟨q,p,j,a,f,c,r,d,i,o⟩
 ·cases b
 ·injection a with a e1 e2
  injection a with a;injection a with a;subst a e2;refine⟨by rw[List.length_take,k];omega,.inr ⟨g,cap,j,rfl,f,c,by omega,d,i,?_⟩⟩;rw[<-o,List.take_take];congr 1
  omega
def TdD(a:Nat)(v:Value):NS:=λk=>k=a\/v.ownBlock=W k
theorem j4(base a:Nat)(row n:List Nat)(i:Option Addr)(o q:Nat)(l:Value)(a4:NS)(w:World)(cl:row.length+n.length<=1000000000000)(bx:base<=w.heap.size)(R:w.heap[a]? =some (J #[Y i o q] 122 (0,0)))(a0:w.ownsRow base 3 1 (Y i o q) row.length (xP row))(bs:(Value.slice i o q).ownBlock≠some a)(P:Row w a4 n.length l (xP n))(a1:∀k,a4 k->¬TdD a (Y i o q) k):
 Calls π 166 #[l,Z (some ⟨a,0,O⟩)] w λe w'=>(∃ba,e=ρ ba)/\(∃f g d,w'.heap[a]? =some (J #[Y f g d] 122 (0,0))/\w'.ownsRow base 3 1 (Y f g d) (row.length+n.length) (xP (row++n.reverse))/\(Value.slice f g d).ownBlock≠some a/\(∀k,(Value.slice f g d).ownBlock=some k->(Value.slice i o q).ownBlock=some k\/w.heap.size<=k))/\Far (TdD a (Y i o q)) w w':=by
 obtain⟨b8,ch,b0,cm,cb⟩:=info_parts gI;obtain⟨dv,df,rfl,b6⟩:=P.form;obtain⟨c,c0⟩:∃c,n.length=c:=⟨_,rfl⟩;obtain⟨B,a5⟩:∃B,w.heap.size=B:=⟨_,rfl⟩;rw[c0]at P cl ⊢;have dr:IntKind.i64.wrap ((c:Int) - 1)=(c:Int) - 1:=zU _ (by omega);obtain⟨ck,b4,co,ca,ao⟩:=zx5 R a0 P a1 a5;have c5:=lt_of_heap R;clear R a0 P a1 b6 a5
 go_enter func166,ntmps166
 go_wp2_with fail
 go_loopw [3] (λal wr=>∃(j:Nat) (f:Option Addr) (g d:Nat),j<=c/\al=V I ((j:Int) - 1)/\wr.heap[a]? =some (J #[Y f g d] 122 (0,0))/\wr.ownsRow base 3 1 (Y f g d) (row.length+(c - j)) (xP (row++(n.drop j).reverse))/\(Value.slice f g d).ownBlock≠some a/\(∀k,(Value.slice f g d).ownBlock=some k->(Value.slice i o q).ownBlock=some k\/B<=k)/\Far (TdD a (Y i o q)) w wr) (λal _=>((Lib.intOf al)+1).toNat)
 case atStart=>
  refine⟨c,i,o,q,η _,rfl,ck.out,?_,bs,λk b=>.inl b,ξ _ _⟩;rw[Nat.sub_self,List.drop_of_length_le (by omega)]
  simpa using b4.out
 case round=>
  obtain⟨j,f,g,d,a2,rfl,z,L,H,N,t⟩:=hrel;cases j with
  |zero=>
   have bw:((0:Nat):Int) - 1=-1:=rfl;have X:=L;rw[Nat.sub_zero,List.drop_zero]at X;obtain⟨A,E,C,y,u⟩:=zx5 z X H N t;rw[bw];clear z L X H N t
   go_wp2_with fail
   go_end0
   exact⟨⟨_,rfl⟩,⟨_,_,_,A.out,E.out,C.out,by rw[ao.out];exact y.out⟩,u.out⟩
  |succ m=>
   obtain⟨x,T⟩:∃x,n[m]? =some x:=⟨_,zE (by omega)⟩;obtain⟨ct,b2,dn,bD,bR,da,F⟩:=co.out.nat T;injection bD with e11 e12 e13;clear e12;subst e11 e13
   replace F:=t.at F (ca.out _ bR)
   rw[show (((m+1:Nat)):Int) - 1=(m:Int)by omega];have c3:IntKind.i64.wrap ((m:Int) - 1)=(m:Int) - 1:=zU _ (by omega);have c6:(m:Int) < (c:Int):=by omega
   have ds:(0:Int)<=(m:Int):=by omega
   have bk:xP (row++(n.drop m).reverse)=xP (row++(n.drop (m+1)).reverse)++[V I (x:Int)]:=by
    rw[aE n m x T];simp[xP]
   have an:=zF z 0 rfl;have b9:base<=wr.heap.size:=Nat.le_trans bx t.size;obtain⟨bb,A,E,C,y,u⟩:=zx6 bk z L H N t;clear z L H N t bk T
   go_upto_region 3 with (fail)
   refine wp_region_noPanic ?_;refine ar (λW=>W.cell? ⟨a,0,O⟩=some (Y f g d)/\W.cell? ⟨ct,b2+m,O⟩=some (V I (x:Int))) [6,7] (by kernel_rfl) ?_;refine aJ (by kernel_rfl) (λ_ _ _ _ b=>b) ⟨an,F⟩ 3 [0,1,2,3,4] _ _ (by kernel_rfl) ?_;iterate 5 (refine ax (v:=?_) ?_ ?_;rotate_left;·(intro dc bm;(try dsimp only at bm);(try obtain⟨db,c9⟩:=bm);go_simp;try with_reducible rfl);(try go_frame))
   refine xT.done ?_;try dsimp only
   refine aq [5] ?_;refine aj rfl (λK r=>?_) xQ.nil
   go_simp
   have s:Far xO wr (wr.drew.alloc (J #[V I (x:Int)] 3)):=(ξ _ wr).drew.alloc _;refine r.out _ _ (λ_=>⟨s.at an id,s.at F id⟩) ?_;clear r K
   (try go_frame)
   refine aq [6] ?_;refine aj rfl (λK r=>?_) xQ.nil;refine wp_append_lies _ (.tmp 11) (.tmp 16) 122 rfl base 3 b8 _ 1 8 underlying122 ch b0 cm cb rfl (by decide) (Y f g d) (row.length+(c - (m+1))) _ rfl (aw E.out s (λ_ _ _ e=>e)) ⟨wr.heap.size,0,O⟩ 1 1 [V I (x:Int)] ?_ rfl ?_ ?_ (by omega) ?_ ?_ ?_ _ rfl ?_
   ·rfl
   ·intro j ba a2
    rw[gK];exact(ae (af wr.drew (J #[V I (x:Int)] 3)) j).trans (by simpa using a2)
   ·simp[Value.oneCell']
   ·unfold maxLen;omega
   ·omega
   ·exact Nat.le_trans b9 s.size
   intro gg cap w5 a9 bn ac dp;have b5:=E.out.lt;have ab:Far (λk=>(Value.slice f g d).ownBlock=some k) wr w5:=(s.mono (λ_ _ e=>e.elim)).grown bn (λk e _=>e);have G:=ab.heap A.out C.out;have c1:wr.heap.size<=(wr.alloc (J #[V I (x:Int)] 3)).drew.heap.size:=s.size;have a6:gg≠a:=by
    rcases ac with b|b
    ·intro e;subst e;exact C.out b
    ·have:=lt_of_heap A.out;omega
   refine r.out _ _ (λb=>absurd (by simp) b) ?_;clear r K
   (try go_frame)
   have c4:=ag G 0;have c2:=zF G 0 rfl;have M:Far (·=a) w5 (w5.setCell ⟨a,0,O⟩ (Y (some ⟨gg,0,O⟩) (row.length+(c - (m+1))+1) cap)):=Far.setCell (D:=(·=a)) (ξ _ _) (p:=⟨a,0,O⟩) (λ_=>rfl) _;have S:=ai G 0 (Y (some ⟨gg,0,O⟩) (row.length+(c - (m+1))+1) cap);have ad:=am a9 M (λk e b=>by injection e with e;exact a6 (e.trans b));rw[<-bb.out,show row.length+(c - (m+1))+1=row.length+(c - m)by omega]at ad;rw[show row.length+(c - (m+1))+1=row.length+(c - m)by omega]at S M ⊢;have be:Far (TdD a (Y i o q)) w (w5.setCell ⟨a,0,O⟩ (Y (some ⟨gg,0,O⟩) (row.length+(c - m)) cap)):=(u.out.step ab (λk b1 e=>by
    rcases y.out k e with b|b
    ·exact .inr b
    ·have:=ao.out;omega)).step M (λk b1 e=>.inl e)
   have a3:∀k,(Value.slice (some ⟨gg,0,O⟩) (row.length+(c - m)) cap).ownBlock=some k->(Value.slice i o q).ownBlock=some k\/B<=k:=λk e=>by
    injection e with e;dsimp only at e
    subst e;rcases ac with b|b
    ·exact y.out _ b
    ·right;have:=ao.out;have:=u.out.size;omega
   obtain⟨cv,cc,cf,b3⟩:=zx4 S ad be a3;clear M S ad be a3 a9 bn ac ab G s b5 an F A E C y u bb;refine aq [7] ?_;refine aj rfl (λK r=>?_) xQ.nil
   go_simp
   refine r.out _ _ (λb=>absurd (by simp) b) ?_;clear r K;refine aP (by kernel_rfl) (NoPanic.normal ?_) _
   go_wp2_with fail
   go_roundw
   case rel=>exact⟨m,_,_,_,by omega,rfl,cv.out,cc.out,by simp[Value.ownBlock,a6],b3.out,cf.out⟩
   case measure=>simp[Lib.intOf]
end
section
attribute [local go_sem] ak
def atM:List Nat->Nat->List (Value × Value)
 | [],_=>[]
 |i::r,k=>(V I (i:Int),V I (k:Int))::atM r (k+1)
theorem nS:∀(l:List Nat) (i k:Nat),atM (l++[i]) k=atM l k++[(V I (i:Int),V I ((k+l.length:Nat):Int))]
 | [],i,k=>rfl
 |j::r,i,k=>by
  rw[List.cons_append,atM,nS r i (k+1),atM,List.cons_append,zO];rw[show k+1+r.length=k+(r.length+1)by omega]
theorem jv:∀(l:List Nat) (k:Nat) (p:Value × Value),p∈atM l k->∃i,i∈l/\p.1=V I (i:Int)
 | [],k,p,a=>by simp[atM]at a
 |j::r,k,p,a=>by
  simp only[atM,List.mem_cons]at a;rcases a with rfl|a
  ·exact⟨j,by simp,rfl⟩
  ·obtain⟨i,a,b⟩:=jv r (k+1) p a
   exact⟨i,by simp[a],b⟩
theorem sK:∀(l:List Nat) (k i:Nat),i∈l->(Value.int I (i:Int),Value.int I ((k+l.idxOf i:Nat):Int))∈atM l k
 | [],k,i,a=>by simp at a
 |j::r,k,i,a=>by
  by_cases e:i=j
  ·subst e;simp[atM]
  ·have b:i∈r:=by simpa [e]using a
   have:=sK r (k+1) i b;simp only[atM,List.mem_cons];right
   rw[List.idxOf_cons,show (j==i)=false by simpa using λa=>e a.symm];simp only[cond_false];rw[show k+(r.idxOf i+1)=k+1+r.idxOf i by omega];exact this
theorem mW:∀(l:List Nat) (k i:Nat),l.Nodup->∀p∈atM l k,p.1=V I (i:Int)->p.2=V I ((k+l.idxOf i:Nat):Int)
 | [],k,i,_,p,a,_=>by simp[atM]at a
 |j::r,k,i,hn,p,a,h1=>by
  obtain⟨d,f⟩:=List.nodup_cons.1 hn;simp only[atM,List.mem_cons]at a;rcases a with rfl|a
  ·simp at h1
   have:j=i:=by omega
   subst this;simp
  ·obtain⟨m,c,b⟩:=jv r (k+1) p a
   rw[b]at h1;simp at h1
   have:m=i:=by omega
   subst this;have e:m≠j:=λe=>d (e ▸ c);rw[mW r (k+1) m f p a b,List.idxOf_cons,show (j==m)=false by simpa using λa=>e a.symm];simp only[cond_false];rw[show k+(r.idxOf m+1)=k+1+r.idxOf m by omega]
theorem bh:Maps.Keyed π 3:=Maps.int_keyed underlying3
theorem bW(n:Nat)(a:n<=9223372036854775807):keyOf π 3 (.int I (n:Int))=W (.int I (n:Int)):=Maps.keyOf_int_mk underlying3 (uO _ (by omega) (by omega))
theorem gC(w:World):(zeroValue 3).run π w=.ok (V I 0) w:=by kernel_rfl
theorem iJ(g:List Tp.Nd):∀(c:Nat) (f a b:List Nat),Tp.walk g c f a=W b->∃s,b=a++s
 |0,_,_,_,h=>by simp[Tp.walk]at h
 |c+1,[],a,b,h=>by
  simp[Tp.walk]at h
  exact⟨[],by simp[h]⟩
 |c+1,i::r,a,b,h=>by
  simp only[Tp.walk]at h;by_cases d:i∈a
  ·rw[if_pos d]at h
   exact iJ g c r a b h
  ·rw[if_neg d]at h
   obtain⟨s,e⟩:=iJ g c _ _ b h;exact⟨i::s,by rw[e];simp⟩
theorem oR(a:Nat)(w:World):Calls π 120 #[Z (W ⟨a,0,O⟩)] w λe w'=>e=ρ (φ (.func 165) #[] #[Z (W ⟨w.heap.size,0,O⟩)])/\w'=w.alloc (J #[Z (W ⟨a,0,O⟩)] 181):=by
 go_enter func120,ntmps120
 go_wp2
 go_ret
 exact⟨rfl,rfl⟩
theorem si(args:Array Value)(w:World):(callFunc 165 args).run π w=.ok (.enter 165 args) w:=by kernel_rfl
theorem bj(x:Tp.Nd):∀i∈Tp.kidsOf x,i∈x.kids:=by
 intro i a;unfold Tp.kidsOf Tp.pairs at a;split at a
 ·exact a
 ·split at a
  ·obtain⟨p,b,rfl⟩:=List.mem_map.1 a
   have:=(Tp.cW (x.keys.zip x.kids)).2 p;exact(List.of_mem_zip (this.1 b)).2
  ·simp at a
theorem bI(x:Tp.Nd):(Tp.kidsOf x).length<=x.kids.length:=by
 unfold Tp.kidsOf Tp.pairs;split
 ·exact η _
 ·split
  ·rw[List.length_map,(Tp.cW _).1,List.length_zip];omega
  ·simp
end
section
attribute [local go_sem] ak
theorem cz{w:World}{base:Nat}{e:TypeId}{size n b d:Nat}{c:Option Addr}{xs:List Value}(a:w.ownsRow base e size (Y c b d) n xs):b=n:=by
 rcases a.2 with ⟨a,i⟩|⟨j,g,f,a,_⟩
 ·injection a with h1 h2 h3
  omega
 ·injection a
theorem wI(a:World)(b:Nat)(c:Array MapEntry)(f:Nat)(d:a.heap[b]? =W (.map c f))(e:TypeId):(Builtin.len_ #[249] e #[.map (W b)]).run π a=.ok (V I (c.size:Int)) a:=by
 simp[Builtin.len_,run_underlying underlying249,MapKept.run_getObj_map d,goInt,Result.andThen]
structure WkR(g:List Tp.Nd)(GG:NS)(ws:List Nat)(root wb mb bx B N:Nat)(v:Value)(J:Nat->NS->World->Prop)(gg:Nat)(todo met:List Nat)(F:NS)(sa:Option Addr)(sn sc:Nat)(W:World):Prop where
 wk:Tp.walk g gg todo met=some ws
 nd:met.Nodup
 small:todo.length+gg * 100000<=2000000001
 inb:∀i∈todo,i < N
 td:W.heap[B+1]? =some (.cells #[Y sa sn sc] 122 (0,0))
 own:W.ownsRow B 3 1 (Y sa sn sc) todo.length (xP todo.reverse)
 ne:(Value.slice sa sn sc).ownBlock≠some (B+1)
 mp:xW π 3 W mb (atM met 0)
 gr:yc W GG g v
 wbk:W.heap[wb]? =some (.cells #[.int I (root:Int),v,.map (some mb)] 251 (0,0))
 bxk:W.heap[bx]? =some (.cells #[.pointer (some ⟨wb,0,O⟩)] 181 (0,0))
 sz:B+2<=W.heap.size
 j:J met.length F W
 fr:∀k,F k->k≠mb/\k≠wb/\k≠bx/\¬GG k/\k≠B+1/\(Value.slice sa sn sc).ownBlock≠some k
def A6(c:List Nat)(t:Nat)(a:Array Value)(b:NS)(_:World):Prop:=(∃i:Nat,c[t]? =W i/\a=#[V I (i:Int)])/\b=xO
theorem oQ(y:Nat)(g:List Tp.Nd)(v:Value)(E:NS)(L:List Nat)(C d G:Nat)(w:World)(hX:y < g.length)(fn:∀x∈g,yx x/\∀i∈x.kids,i < g.length)(a6:Tp.walk g 20000 [y] []=W L)(be:yc w E g v)(dn:∀k,E k->k < w.heap.size/\k≠d)(S:w.heap[C]? =W (.cells #[.int I (y:Int),v,.map (W d)] 251 (0,0)))(X:w.heap[G]? =W (.cells #[.pointer (W ⟨C,0,O⟩)] 181 (0,0)))(a1:xW π 3 w d []):
 yQ π 165 #[.pointer (W ⟨G,0,O⟩)] 3 L.length (A6 L) (·=d) (λk=>k=C\/k=G\/E k) True (λ_ _=>True) (λo=>xW π 3 o d (atM L 0)) w:=by
 intro l J kb cb o a9 hA hF0 c6 hh bb f1 d2;have gc:∀k,E k->k≠d:=λk b=>(dn k b).2;have h6:C≠d:=λe=>by obtain⟨bs,bm,b,_⟩:=a1.1;rw[e,b]at S;cases S
 have i1:G≠d:=λe=>by obtain⟨bs,bm,b,_⟩:=a1.1;rw[e,b]at X;cases X
 have fv:∀k,E k->k < o.heap.size:=λk b=>by have:=(dn k b).1;have:=a9.size;omega
 have fR:=a1.lt;have g5:=lt_of_heap S;have f2:=lt_of_heap X
 replace S:=(a9.block _ g5).trans S
 replace X:=(a9.block _ f2).trans X
 replace a1:=a1.below a9 fR
 replace be:=be.below a9
 obtain⟨base,fG⟩:∃f5,w.heap.size=f5:=⟨_,rfl⟩;rw[fG]at c6 hh fR g5 f2;have ln:base<=o.heap.size:=by omega
 have he:∀k,cb k->k < o.heap.size/\k≠d/\k≠C/\k≠G/\¬E k:=λk b=>⟨(bb 0 cb o d2).2 trivial k b,(hF0 k b).1,λe=>(hF0 k b).2 (.inl e),λe=>(hF0 k b).2 (.inr (.inl e)),λe=>(hF0 k b).2 (.inr (.inr e))⟩;obtain⟨a,bm,rfl,f7⟩:=be.form;obtain⟨B,da⟩:∃B,o.heap.size=B:=⟨_,rfl⟩;obtain⟨co,h2,f8,hy,hU,hu⟩:=zx6 c6 f1 bb he fn a6;obtain⟨hr,dc⟩:=zx2 gc fv;have hK:RowKit.Hid (g.length<=9223372036854775807):=zD f7;obtain⟨ac,ei⟩:∃ac,g.length=ac:=⟨_,rfl⟩;rw[ei]at hX be S;have lb:=zF X 0 rfl;obtain⟨kg,kt,j9,_⟩:=bv S;have a4:Far xO o ((o.alloc (.cells #[.int I (y:Int)] 3)).alloc (.cells #[Y (W ⟨B,0,O⟩) 1 1] 122)):=((ξ _ o).alloc _).alloc _;have hN:((o.alloc (.cells #[.int I (y:Int)] 3)).alloc (.cells #[Y (W ⟨B,0,O⟩) 1 1] 122)).heap[B]? =W (.cells #[.int I (y:Int)] 3 (0,0)):=by rw[<-da];exact aa _ (af o _)
 have h9:((o.alloc (.cells #[.int I (y:Int)] 3)).alloc (.cells #[Y (W ⟨B,0,O⟩) 1 1] 122)).heap[B+1]? =W (.cells #[Y (W ⟨B,0,O⟩) 1 1] 122 (0,0)):=ah _ _ _ (by simp[da]);have i7:((o.alloc (.cells #[.int I (y:Int)] 3)).alloc (.cells #[Y (W ⟨B,0,O⟩) 1 1] 122)).ownsRow B 3 1 (Y (W ⟨B,0,O⟩) 1 1) 1 (xP [y].reverse):=⟨rfl,.inr ⟨B,1,_,rfl,η _,hN,η _,by decide,rfl,rfl⟩⟩;have hG:=be.far a4 (λ_ _ _ e=>e);have c5:=a4.heap S id;have hq:=a4.heap X id;have i3:=a1.far a4 id;have hE:=co.out 0 cb _ _ d2 (a4.mono (λ_ _ e=>e.elim));clear c6 hh f1 he hF0 a9 hA fG bb f7 fn a6 gc fv be S X a1 d2 a4 dn
 go_enter func165,ntmps165
 go_wp2_with fail
 go_step3
 go_wp2_with fail
 go_step3
 go_wp2_with fail
 have hF:B+2<=((o.alloc (.cells #[.int I (y:Int)] 3)).alloc (.cells #[Y (W ⟨B,0,O⟩) 1 1] 122)).heap.size:=by simp[da]
 go_loopg [] 20000 (λgg wr=>∃(c9 c:List Nat) (H:NS) (fs:Option Addr) (hi M ct:Nat),ct=gg/\WkR g E L y C d G B ac (Y a ac bm) J ct c9 c H fs hi M wr)
 case atStart=>
  exact⟨[y],[],cb,_,_,_,20000,rfl,hu.out,List.nodup_nil,by simp,λi h5=>by simp at h5;omega,h9,i7,by simp[Value.ownBlock],i3,hG,c5,hq,hF,hE,λk b=>by
   obtain⟨F,P,an,a2,av⟩:=hy.out k b;exact⟨P,an,a2,av,by omega,by simp[Value.ownBlock];omega⟩⟩
 case round=>
  obtain⟨c9,c,H,fs,hi,M,gg,k4,z⟩:=hrel;have hL:=cz z.own;subst hL;have d3:=zF z.td 0 rfl;cases c9 with
  |nil=>
   have u:=zD z;clear z
   go_wp2_with fail
   rw[Exit.noGoto_normal]
   go_end0
   have N:=u.out.wk;cases gg with
   |zero=>simp[Tp.walk]at N
   |succ f=>
    simp[Tp.walk]at N
    subst N;exact⟨⟨_,rfl⟩,.inl ⟨H,u.out.j,u.out.mp⟩⟩
  |cons i r=>
   have N:=z.wk;cases gg with
   |zero=>simp[Tp.walk]at N
   |succ f=>
   have hS:=z.inb i (by simp);obtain⟨x,b9⟩:∃x,g[i]? =W x:=⟨_,zE (by rw[ei];exact hS)⟩;have en:g.getD i ⟨0,Tp.Sc.null,[],[]⟩=x:=by rw[zY,b9];rfl
   obtain⟨ho,c2⟩:=hU.out x (zL b9);rw[ei]at c2;simp only[Tp.walk]at N;rw[en]at N;obtain⟨A,cap,e,lr,lt⟩:=aA (n:=r.length) z.own;injection e with ca b0 e3;clear b0;subst ca e3;have ba:wr.cell? ⟨A,r.length,O⟩=W (.int I (i:Int)):=(bK z.own).cell (by
    have e:xP (i::r).reverse=xP r.reverse++[.int I (i:Int)]:=by simp[xP]
    rw[e,zV (by simp[xP])];simp[xP])
   have hD:=z.small;simp only[zO]at hD;have cm:=mo (m:=r.length) z.own (by simp);have ha:(xP (i::r).reverse).take r.length=xP r.reverse:=by
    have e:xP (i::r).reverse=xP r.reverse++[.int I (i:Int)]:=by simp[xP]
    rw[e,List.take_left' (by simp[xP])]
   rw[ha]at cm;have hx:(((i::r).length:Nat):Int)=((r.length+1:Nat):Int):=rfl;obtain⟨t,ch⟩:∃t,r.length=t:=⟨_,rfl⟩;have c5:IntKind.i64.wrap (((t+1:Nat):Int) - 1)=(t:Int):=by rw[show ((t+1:Nat):Int) - 1=(t:Int)by omega];exact zU _ (by omega)
   rw[zO,ch]at d3;rw[ch]at ba cm;have lc:(0:Int)<=(t:Int):=by omega
   have hI:(t:Int) < ((t+1:Nat):Int):=by omega
   obtain⟨bR,hZ⟩:∃bR,t+1=bR:=⟨_,rfl⟩;rw[hZ]at d3 c5 hI;have kn:(0:Int) < (bR:Int):=by omega
   have ky:0 < bR:=by omega
   have la:(bR:Int)<=(M:Int):=by have:=(ja z.own).1;simp at this;omega
   have le:(t:Int)<=(M:Int):=by omega
   have ct:=ag z.td 0;obtain⟨u,hf,bw,js,dr,hT⟩:=zx6 z cm N b9 ho c2;clear z cm N b9 ho c2 ha en hx
   go_upto_region 5 with (fail)
   have ab:Far (·=B+1) wr (wr.setCell ⟨B+1,0,O⟩ (Y (W ⟨A,0,O⟩) t M)):=Far.setCell (D:=(·=B+1)) (ξ _ _) (p:=⟨B+1,0,O⟩) (λ_=>rfl) _;have bk:=ai u.out.td 0 (Y (W ⟨A,0,O⟩) t M);have eg:A≠B+1:=λe=>u.out.ne (by simp[Value.ownBlock,e]);have b8:=am hf.out ab (λk e b=>by injection e with e;exact eg (e.trans b));have g3:d≠B+1:=by omega
   have T:=u.out.mp.far ab g3;have c1:=u.out.gr.far ab (λk q _ e=>by have:=dc.out k q;omega);have bx:=ab.heap u.out.wbk (by omega);have b4:=ab.heap u.out.bxk (by omega);have cf:=co.out _ H _ _ u.out.j (ab.mono (λk _ e=>⟨λb=>(u.out.fr k b).2.2.2.2.1 e,.inr (by omega)⟩));have cc:B+2<=(wr.setCell ⟨B+1,0,O⟩ (Y (W ⟨A,0,O⟩) t M)).heap.size:=Nat.le_trans u.out.sz ab.size;have b3:=u.out.fr;have cv:=u.out.nd;have ck:=u.out.inb;simp only[Array.setIfInBounds,zA,zB]at bk;clear u hf ab d3 ba ct;generalize (wr.setCell ⟨B+1,0,O⟩ (Y (W ⟨A,0,O⟩) t M))=a0 at *;obtain⟨eq,ca,b0,_⟩:=bv bx;have c3:=zF b4 0 rfl;have dp:=bW i (by have:=hK.out;omega);by_cases a5:i∈c
   ·rw[if_pos a5]at bw
    have cl:=T.look_in bh underlying249 (gC _) (.int I (i:Int)) dp true _ (sK c 0 i a5) (λp b5 it=>mW c 0 i cv p b5 it);simp only[if_true]at cl;have b2:WkR g E L y C d G B ac (Y a ac bm) J f r c H (W ⟨A,0,O⟩) t M a0:=⟨bw.out,cv,by omega,λk q=>ck k (by simp[q]),bk,by rw[ch];exact b8,by simp[Value.ownBlock,eg],T,c1,bx,b4,cc,cf,λk b=>by
     obtain⟨F,P,an,a2,av,c0⟩:=b3 k b;exact⟨F,P,an,a2,av,c0⟩⟩
    have dv:=zD b2;clear bk b8 T c1 bx b4 cc cf b3 cv ck b2
    go_wp2_with fail
    go_roundg f
    case rel=>exact⟨r,c,H,_,_,_,f,rfl,dv.out⟩
    case measure=>omega
   ·rw[if_neg a5]at bw
    have cl:=T.look_out bh underlying249 (gC _) (.int I (i:Int)) dp true (λp b5 e=>by
     obtain⟨k,q,ba⟩:=jv c 0 p b5;rw[ba]at e;simp at e
     exact a5 (by
      have:k=i:=by omega
      rw[<-this];exact q))
    simp only[if_true]at cl
    go_upto_region 7 with (fail)
    have hn:=(show xW π 3 a0.drew d (atM c 0)from T).put bh underlying249 (.int I (i:Int)) (.int I (c.length:Int)) dp (λp b5 e=>by
     obtain⟨k,q,ba⟩:=jv c 0 p b5;rw[ba]at e;simp at e
     exact a5 (by
      have:k=i:=by omega
      rw[<-this];exact q))
    have hd:atM c 0++[(Value.int I (i:Int),Value.int I (c.length:Int))]=atM (c++[i]) 0:=by rw[nS,Nat.zero_add]
    rw[hd]at hn;obtain⟨b1,i5,gf,g8⟩:=hn;obtain⟨⟨bs,f0,hj,g6⟩,_⟩:=id T;have h7:bs.size=c.length:=by
     have F:=congrArg List.length g6;rw[List.length_map,Array.length_toList]at F;rw[F];have:∀(l:List Nat) (k:Nat),(atM l k).length=l.length:=by
      intro l;induction l with
      |nil=>intro k;rfl
      |cons j r ih=>intro k;rw[atM,zO,ih,zO]
     exact this _ _
    have hl:Far (·=d) a0 b1:=((ξ _ a0).drew).trans g8;obtain⟨ht,gx,ad⟩:=zx3 T gf hl;clear cl hd g6 g8 hl T gf;refine wp_region_noPanic ?_;refine ar (λo=>o.cell? ⟨G,0,O⟩=W (.pointer (W ⟨C,0,O⟩))/\o.cell? ⟨C,2,O⟩=W (.map (W d))/\o.heap[d]? =W (.map bs f0)) [10] (by kernel_rfl) ?_;refine aJ (by kernel_rfl) (λ_ _ _ _ b=>b) ⟨c3,b0,hj⟩ 1 [0,1,2,3,4,5,6,7,8,9] _ _ (by kernel_rfl) ?_;iterate 9 (refine ax (v:=?_) ?_ ?_;rotate_left;·(intro ga b6;(try dsimp only at b6);(try obtain⟨hR,hJ,e4⟩:=b6);go_simp;try with_reducible rfl);(try go_frame))
    (refine ax (v:=?_) ?_ ?_;rotate_left;·(intro ga b6;(try dsimp only at b6);(try obtain⟨hR,hJ,e4⟩:=b6);have l1:=wI ga d bs f0 e4;go_simp;try with_reducible rfl);(try go_frame))
    refine xT.done ?_;try dsimp only
    have i8:Far xO a0 a0.drew:=(ξ _ a0).drew;have e8:=ad.out.heap bk g3.symm;have gd:=am b8 ad.out (λk e b=>by injection e with e;subst e;dsimp only at b;omega);have g1:=c1.far ad.out (λk q _ e=>hr.out k q e);have e0:=ad.out.heap bx h6;have gr:=ad.out.heap b4 i1;have e9:=co.out _ H _ _ cf (ad.out.mono (λk _ e=>⟨λb=>(b3 k b).1 e,.inl e⟩));have ks:=Nat.le_trans cc ad.out.size;obtain⟨i9,g0,hp,f9,ft,gb⟩:=zx6 e8 gd g1 e0 gr e9;have k5:A≠d:=by omega
    clear bk b8 ht c1 bx b4 cc cf ad e8 gd g1 e0 gr e9 i8 c3 eq ca b0 hj;refine aq [10] ?_;refine aj rfl (λK bb=>?_) xQ.nil
    go_simp
    refine bb.out _ _ (λb=>absurd (by simp) b) ?_;clear bb K i5
    (try go_frame)
    refine aP (by kernel_rfl) (NoPanic.normal ?_) _
    go_upto_region 8 with (fail)
    refine(wpIn_wide (n:=4)).1 ?_;obtain⟨s,a6⟩:=iJ g f _ _ L bw.out;have d5:L[c.length]? =W i:=by rw[a6];simp
    have i0:c.length < L.length:=by rw[a6];simp
    have k0:∀k,H k->k < b1.heap.size:=λk b=>(f8.out _ H b1 gb.out).2 trivial k b;obtain⟨ls,k3,assign,body,hP,e5⟩:=h2.out c.length i0 H xO #[.int I (i:Int)] b1 gb.out ⟨⟨i,d5,rfl⟩,rfl⟩ (λk b=>b.elim);obtain⟨hg,ao,hW,k1⟩:=zx4 e5 b3 ck d5;have hH:(c++[i]).Nodup:=by
     rw[List.nodup_append];exact⟨cv,by simp,λa h8 f5 e2 e=>by simp at e2;subst e2;subst e;exact a5 h8⟩
    clear e5 a6 d5 b3 ck h7
    gi_wp2
    refine(hg.out).mono ?_;rintro e bD ⟨a3,⟨R,c4⟩,(⟨rfl,db⟩|⟨rfl,g4⟩)⟩
    ·have g7:=R.heap i9.out (λb=>(ao.out _ b).2.2.2.2.1 rfl)
     have f3:=am g0.out R (λk e b=>by
      have:=(ao.out k b).2.2.2.2.2;simp[Value.ownBlock]at this e
      exact this e)
     have fl:=gx.out.far R (λb=>(ao.out _ b).1 rfl);have df:=hp.out.far R (λk q _ b=>(ao.out k b).2.2.2.1 q);have d4:=R.heap f9.out (λb=>(ao.out _ b).2.1 rfl);have d6:=R.heap ft.out (λb=>(ao.out _ b).2.2.1 rfl);have k2:=R.size;have kc:A < b1.heap.size:=by
      rcases g0.out.2 with ⟨b,_⟩|⟨kd,kr,kf,b,_,hM,_⟩
      ·cases b
      ·injection b with b
       injection b with b;injection b with b;subst b;exact lt_of_heap hM
     have kl:=gx.out.lt;have hB:∀k,a3 k->k < bD.heap.size:=λk b=>(f8.out _ a3 bD db).2 trivial k b;have hc:∀k,a3 k->k≠d/\k≠C/\k≠G/\¬E k/\k≠B+1/\k≠A:=by
      intro k b;rcases c4 k b with b|b|b
      ·obtain⟨F,P,an,a2,av,c0⟩:=ao.out k b
       exact⟨F,P,an,a2,av,λe=>c0 (by simp[Value.ownBlock,e])⟩
      ·exact b.elim
      ·exact⟨by omega,by have:=lt_of_heap f9.out;omega,by have:=lt_of_heap ft.out;omega,λq=>by have:=dc.out k q;omega,by omega,by omega⟩
     obtain⟨kv,hV,e7⟩:=df.at js.out;have hb:=bQ (y:Int) x _ kv hV _ i E bD e7 dr.out;obtain⟨eq,ca,b0,_⟩:=bv d4;have c3:=zF d6 0 rfl;obtain⟨ex,h4,hQ,hY,hs,hv⟩:=zx6 hb g7 f3 fl df d4;obtain⟨h1,hz,e6⟩:=zx3 d6 db hc;clear g7 f3 fl df d4 d6 db hc hb R c4 hP hg e7
     gi_wp2
     go_wp2_with fail
     refine ex.out.mono ?_;rintro e h3 ⟨⟨i6,rfl,d0⟩,fr⟩;have bn:=Far.of_below fr xO;have g2:=bn.heap h4.out id;have es:=am hQ.out bn (λ_ _ b=>b);have kk:=bn.size;have hm:=j4 B (B+1) r.reverse (Tp.kidsOf x) (W ⟨A,0,O⟩) t M i6 (New bD) h3 (by have F:=bI x;have P:=dr.out.2.2;rw[List.length_reverse];omega) (by omega) g2 (by rw[List.length_reverse,ch];exact es) (by simp[Value.ownBlock,eg]) d0 (λk (q:bD.heap.size<=k) b=>by
      rcases b with rfl|b
      ·omega
      ·simp[Value.ownBlock]at b;omega)
     obtain⟨ka,l0,rfl,_⟩:=d0.form;obtain⟨ge,gk⟩:=zx2 hm bn;clear d0 fr bn g2 es hm ex
     go_wp2_with fail
     refine ge.out.mono ?_;rintro e i4 ⟨⟨k6,rfl⟩,⟨hC,hw,i2,er,d1,f4,fz⟩,e1⟩;have al:=(gk.out.mono (D':=λk=>k=B+1\/k=A) (λ_ _ e=>e.elim)).trans (e1.mono (D':=λk=>k=B+1\/k=A) (λk _ e=>by
      rcases e with b|b
      ·exact .inl b
      ·simp[Value.ownBlock]at b;exact .inr b.symm))
     have hk:r.reverse++(Tp.kidsOf x).reverse=(Tp.kidsOf x++r).reverse:=by simp
     have f6:r.reverse.length+(Tp.kidsOf x).length=(Tp.kidsOf x++r).length:=by simp;omega
     rw[hk,f6]at d1;have b2:WkR g E L y C d G B ac (Y a ac bm) J f (Tp.kidsOf x++r) (c++[i]) a3 hC hw i2 i4:=⟨bw.out,hH,by have F:=bI x;have P:=dr.out.2.2;rw[zP];omega,λk q=>by
      rcases List.mem_append.1 q with b|b
      ·exact hT.out k (bj x k b)
      ·exact hW.out k (by simp[b]),er,d1,f4,hY.out.far al (by omega),hs.out.far al (λk q _ e=>by have:=dc.out k q;omega),al.heap hv.out (by omega),al.heap h1.out (by omega),Nat.le_trans (by omega) al.size,by
       rw[zP,List.length_singleton];exact co.out _ a3 _ _ hz.out (al.mono (λk _ e=>⟨λb=>by have:=e6.out k b;omega,.inr (by omega)⟩)),λk b=>by
       obtain⟨F,P,an,a2,av,c0⟩:=e6.out k b;refine⟨F,P,an,a2,av,λe=>?_⟩;rcases fz k e with gl|gl
       ·simp[Value.ownBlock]at gl;omega
       ·have:=hB k b;omega⟩
     have dv:=zD b2;clear er d1 f4 fz e1 al hk f6 b2 ge gk
     go_wp2_with fail
     go_roundg f
     case rel=>exact⟨_,_,a3,_,_,_,f,rfl,dv.out⟩
     case measure=>omega
    ·have h0:=zD g4
     clear g4 R c4
     gi_wp2
     go_wp2_with fail
     try rw[Exit.noGoto_normal]
     go_end0
     exact⟨⟨_,rfl⟩,.inr ⟨a3,h0.out⟩⟩
end
section
attribute [local go_sem] ak
attribute [local go_sem] Oper.semAt_some
theorem mi(b:Int)(v:Value)(d:∃a n c,v=Y a n c)(w:World):Calls π 84 #[γ #[V I b,v]] w λe w'=>e=ρ (Z (W ⟨w.heap.size+2,0,O⟩))/\w'=((w.alloc (J #[V I b,v] 54)).alloc (.map #[] 0)).alloc (J #[V I b,v,.map (W (w.heap.size+1))] 251):=by
 obtain⟨a,n,c,rfl⟩:=d;have f:=@run_makeMap π
 go_enter func84,ntmps84
 go_wp2
 go_ret
 exact⟨rfl,rfl⟩
structure WlI(w:World)(q mb:Nat)(ws:List Nat)(t:Nat)(F:NS)(W:World):Prop where
 le:t<=ws.length
 row:∃(sa:Option Addr) (sn sc:Nat),(∀k,F k↔k=q\/(Value.slice sa sn sc).ownBlock=some k)/\W.heap[q]? =some (J #[Y sa sn sc] 122 (0,0))/\W.ownsRow (q+1) 3 1 (Y sa sn sc) t (xP (ws.take t))
 far:Far (·=mb) w W
theorem pI(T:Nat)(g:List Tp.Nd)(v:Value)(ab:NS)(o:List Nat)(d y:Nat)(w:World)(c9:T < g.length)(be:∀x∈g,yx x/\∀i∈x.kids,i < g.length)(bs:Tp.walk g 20000 [T] []=W o)(es:o.length<=1000000)(b9:yc w ab g v)(X:∀k,ab k->k < w.heap.size/\k≠y)(a3:w.heap[d]? =W (J #[.int I (T:Int),v,.map (W y)] 251 (0,0)))(ao:xW π 3 w y []):
 Calls π 85 #[.pointer (W ⟨d,0,O⟩)] w λe w'=>(∃bw,e=ρ bw/\Row w' (New w) o.length bw (xP o))/\xW π 3 w' y (atM o 0)/\Far (·=y) w w':=by
 obtain⟨c6,b1,cv,dr,da⟩:=info_parts gI;obtain⟨q,z⟩:∃q,w.heap.size=q:=⟨_,rfl⟩;have c3:=ao.lt;have ds:=lt_of_heap a3;have ca:=oR d;have F:Far xO w ((w.alloc (J #[Y O 0 0] 122)).alloc (J #[.pointer (W ⟨d,0,O⟩)] 181)):=((ξ _ w).alloc _).alloc _;have b8:((w.alloc (J #[Y O 0 0] 122)).alloc (J #[.pointer (W ⟨d,0,O⟩)] 181)).heap[q]? =W (J #[Y O 0 0] 122 (0,0)):=by rw[<-z];exact aa _ (af w _)
 have f:((w.alloc (J #[Y O 0 0] 122)).alloc (J #[.pointer (W ⟨d,0,O⟩)] 181)).heap[q+1]? =W (J #[.pointer (W ⟨d,0,O⟩)] 181 (0,0)):=ah _ _ _ (by simp[z]);have bx:((w.alloc (J #[Y O 0 0] 122)).alloc (J #[.pointer (W ⟨d,0,O⟩)] 181)).heap.size=q+2:=by simp[z]
 have bm:=oQ T g v ab o d y (q+1) _ c9 be bs (b9.far F (λ_ _ _ e=>e)) (λk c=>⟨zK (X k c).1 F.size,(X k c).2⟩) (F.heap a3 id) f (ao.far F id);have bk:∀k,ab k->k < q:=λk c=>z ▸ (X k c).1;obtain⟨bb,c2⟩:=zx2 ca bm;have d2:RowKit.Hid (WlI w q y o 0 (λk=>k=q\/(Value.slice O 0 0).ownBlock=W k) ((w.alloc (J #[Y O 0 0] 122)).alloc (J #[.pointer (W ⟨d,0,O⟩)] 181))):=zD ⟨z_ _,⟨O,0,0,λ_=>Iff.rfl,b8,World.ownsRow_nil _ _ _ _⟩,F.mono (λ_ _ e=>e.elim)⟩;obtain⟨u,H,ba⟩:=zx3 bx z bk;have a9:(w.alloc (J #[Y O 0 0] 122)).heap.size=q+1:=by simp[z]
 clear ca bm b9 a3 ao be bs X F b8 f bx bk;refine callsIn_wide.1 (callsIn_of_wp_marks (n:=5) func85 rfl trivial (wpIn_wide.2 ?_));simp only[ntmps85,List.size_toArray,zO,List.length_nil,Nat.reduceAdd,Nat.reduceSub,Array.replicate_succ,Array.replicate_zero,List.push_toArray,List.append_toArray,List.nil_append,List.cons_append]
 go_wp2_with fail
 refine(bb.out _).mono ?_;rintro e eq ⟨rfl,rfl⟩;rw[a9];rw[z]at c3 ds;generalize ((w.alloc (J #[Y O 0 0] 122)).alloc (J #[.pointer (W ⟨d,0,O⟩)] 181))=ex at *;clear z a9 bb
 go_wp2_with fail
 refine wpIn_wide.1 (aC (n:=5) (gf:=165) (lb:=#[.pointer (W ⟨q+1,0,O⟩)]) rfl (λargs wx=>si args wx)
  c2.out (λk e=>by have:=u.out;omega) (λk e=>by have:=u.out;rcases e with rfl|rfl|e;omega;omega;have:=ba.out k e;omega) (λt v c0 R a=>by obtain⟨⟨i,_,rfl⟩,_⟩:=a;rfl)
  (WlI w q y o) (λ_ _ _=>False) (λk=>k=q\/(Value.slice O 0 0).ownBlock=W k) (λk a=>?hF0) d2.out ?hI (λ_ _ _ _ a _=>a) (λ_ _ _ _=>trivial) ?hFin ?round ?done (λ_ _ _ a=>a.elim))
 case hF0=>
  have c:k=q:=by
   rcases a with a|a
   ·exact a
   ·simp[Value.ownBlock]at a
  subst c;have:=u.out;exact⟨by omega,λe=>by rcases e with e|e|e;omega;omega;have:=ba.out _ e;omega,by omega,by omega,λ_=>by omega⟩
 case hI=>
  rintro t al R b4 ⟨av,⟨b,l,m,r,f,s⟩,A⟩ M;refine⟨av,⟨b,l,m,r,M.heap f (λe=>e.1 ((r q).2 (.inl rfl))),am s M (λk e a=>a.1 ((r k).2 (.inr e)))⟩,A.step M (λi b1 e=>?_)⟩;have:=u.out;have:=H.out;rcases e.2 with a|a
  ·exact a
  ·omega
 case hFin=>
  intro R b4 a M;exact a.far M (λe=>by have:=u.out;omega)
 case round=>
  rintro t al c0 dc R K cc ct ⟨av,⟨b,l,m,r,f,s⟩,A⟩ ⟨⟨i,a6,rfl⟩,rfl⟩ d6 P G;have b3:=u.out;rw[b3]at ct P
  gi_wp2
  refine G _ _ (ξ _ _) ?_;intro E C _ _;rw[b3]at C;have dp:¬q=q+2+1:=by omega
  have ac:=C.heap f dp;have N:=am s C (λk e a=>by have:=(P k ((r k).2 (.inr e))).2.1;omega);have bR:=A.step C (λk c e=>by have:=H.out;omega);have d5:=C.size;have dn:=zF ac 0 rfl;have b6:xP (o.take (t+1))=xP (o.take t)++[.int I (i:Int)]:=by rw[zG,a6];simp[xP]
  have b5:∀k,(Value.slice b l m).ownBlock=W k->q+1<=k/\k < E.heap.size:=λk e=>N.lt k e;obtain⟨ch,a5,a1,dv,b2,L⟩:=zx6 ac N bR b6 b5 r;have c1:=lt_of_heap ac;clear f s A ac N bR b6 C G P a6 b5 r
  gi_wp2_with (gi_at_builtin;refine wpListIn_append_own_at _ rfl (.tmp 8) (.tmp 10) 122 rfl (q+1) 3 c6 _ 1 8 underlying122 b1 cv dr da rfl (by decide) (Y b l m) t _ rfl (a5.out.alloc _) ⟨E.heap.size,0,O⟩ 1 1 [.int I (i:Int)] rfl rfl (λj dc cl=>by rw[gK];exact(ae (af E _) j).trans (by simpa using cl)) (by simp[Value.oneCell']) (by unfold maxLen;omega) (by omega) (by simp;omega) ?_;intro er w5 a4 cb _ b0;obtain⟨gg,cap,rfl,ei,_⟩:=aA a4;have an:Far (λk=>(Value.slice b l m).ownBlock=W k) E w5:=(((ξ (λk=>(Value.slice b l m).ownBlock=W k) E).alloc _).grown cb (λk e _=>e));have S:=an.heap ch.out (λe=>by have:=(b2.out q e).1;omega);have d4:w5.cell? ⟨q,0,O⟩=W (Y b l m):=ae S 0;have eg:w5.frozen? ⟨q,0,O⟩=false:=ag S 0;have c5:=zD S;have db:=zD an;have cm:=zD a4;have ck:=zD b0;clear S an a4 cb b0)
  have bn:Far (·=q) w5 (w5.setCell ⟨q,0,O⟩ (Y (W ⟨gg,0,O⟩) (t+1) cap)):=Far.setCell (D:=(·=q)) (ξ _ _) (p:=⟨q,0,O⟩) (λ_=>rfl) _;have cf:gg≠q:=by omega
  have a0:=am cm.out bn (λk e a=>by injection e with e;exact cf (e.trans a));rw[<-dv.out]at a0;have a2:=(db.out.mono (D':=al) (λk _ e=>(L.out k).2 (.inr e))).step bn (λk _ e=>(L.out k).2 (.inl e));have d3:gg < w5.heap.size:=(a0.lt gg rfl).2 |> λa=>by simpa [World.setCell]using a
  have d1:(Value.slice b l m).ownBlock=W gg\/E.heap.size<=gg:=by
   rcases ck.out with a|a
   ·left;rw[<-a];rfl
   ·right
    simp[Value.ownBlock]at a
    omega
  refine⟨λk=>k=q\/(Value.slice (W ⟨gg,0,O⟩) (t+1) cap).ownBlock=W k,⟨cc,⟨_,_,_,λ_=>Iff.rfl,ai c5.out 0 _,a0⟩,a1.out.step a2 (λk c e=>by
   have:=H.out;rcases (L.out k).1 e with a|a
   ·omega
   ·have:=(b2.out k a).1;omega)⟩,a2,λk a=>?_⟩
  rcases a with rfl|a
  ·exact⟨.inl ((L.out k).2 (.inl rfl)),λ_=>zK c1 a2.size⟩
  ·simp[Value.ownBlock]at a
   subst a;refine⟨?_,λ_=>by simpa [World.setCell]using d3⟩;rcases d1 with a|a
   ·exact .inl ((L.out gg).2 (.inr a))
   ·exact .inr (.inr (by omega))
 case done=>
  rintro al R ⟨av,⟨b,l,m,r,f,s⟩,A⟩ bD G P;rw[u.out]at G ⊢;rw[List.take_length]at s;have dn:=zF f 0 rfl;have df:=(az s).mono (G':=New w) (λk (c:q+1<=k) _=>by have:=H.out;show w.heap.size<=k;omega);have co:∀k,(Value.slice b l m).ownBlock=W k->k≠q+2:=λk e=>by have f:=P k ((r k).2 (.inr e));have:=u.out;omega
  obtain⟨a5,a1,c4,d0⟩:=zx4 s A G bD;clear f s A G bD df
  go_wp2_with fail
  refine au (q:=q+2) rfl c4.out ?_;intro b4 ad;have N:=am a5.out ad (λk e a=>co k e a);have en:=H.out;refine⟨Y b l m,by simp[results,results85,go_sem],⟨_,rfl,(az N).mono (G':=New w) (λk (c:q+1<=k) _=>by show w.heap.size<=k;omega)⟩,d0.out.far ad (by omega),a1.out.step ad (λk c e=>by omega)⟩
end
section
attribute [local go_sem] ak
theorem vf{w:World}{g:Nat}{a:List Value}(c:PR w g a){i:Nat}(d:i < a.length):∃b,w.cell? ⟨g,i,O⟩=W b:=⟨_,c.cell (zE d)⟩
theorem mw(b:List Nat)(l:Value)(ab:NS)(w:World)(a5:b.length<=1000000)(C:Row w ab b.length l (xP b)):
 ∃f F,(Instr.makeSlice 122 (V I (b.length:Int)) (V I (b.length:Int))).run π w=.ok (Y (W ⟨w.heap.size,0,O⟩) b.length b.length) f/\
  (Builtin.copy_ #[122,122] 3 #[Y (W ⟨w.heap.size,0,O⟩) b.length b.length,l]).run π f=.ok (V I (b.length:Int)) F/\PR F w.heap.size (xP b)/\Below w.heap.size w F:=by
 obtain⟨av,E,X,L,ad⟩:=info_parts gI;obtain⟨f,H,n,ao⟩:=run_make_full (P:=π) w w.heap.size 122 3 av _ 1 underlying122 E X L I I b.length (by rw[ad];omega) (by unfold maxLen;omega) (η _);have s:Below w.heap.size w f:=(ζ _ w).grown ao (η _) (λ_ e=>by cases e);generalize (madeCells (Value.int I 0).cells (b.length * 1)).toList=Z at n;have y:=bK n;obtain⟨a,R,rfl,_⟩:=C.form;have M:(prog.info? 3).map (·.size)=W 1:=by rw[E];simp[L]
 have v:=n.1;rw[Nat.mul_one]at v;rcases Nat.eq_zero_or_pos b.length with q|q
 ·refine⟨f,f,H,?_,?_,s⟩
  ·have:=run_copy_none (P:=π) f 122 122 3 3 (W ⟨w.heap.size,0,O⟩) a b.length b.length b.length R underlying122 M (by simp[q])
   rw[this,q];rfl
  ·rw[List.length_eq_zero_iff.1 q]
   obtain⟨al,T,G,_⟩:=y;exact⟨al,T,G,λi d t=>by simp[xP]at t⟩
 ·obtain⟨a2,a1⟩:∃x,b[0]? =W x:=⟨_,zE q⟩
  obtain⟨g,o,cap,e,_,a4,_⟩:=(C.below s).nat a1;injection e with e1 e2 e3;subst e1;refine⟨f,f.setCells w.heap.size 0 (xP b),H,?_,?_,?_⟩
  ·rw[run_copy_cells (P:=π) f 122 122 3 3 w.heap.size 0 b.length b.length ⟨g,o,O⟩ b.length R (xP b) underlying122 M (by simp[xP]) (λj d u=>by
    have z:=(zM.1 u).1;rw[xP,List.length_map]at z;obtain⟨a6,ba,a3,ac,_,_,G⟩:=(C.below s).nat (i:=j) (x:=b[j]) (zE z);injection ac with e1 e2 e3;injection e1 with e1;injection e1 with e1 e4;subst e1 e4;have an:(⟨g,o,O⟩:Addr).add j=⟨g,o+j,O⟩:=by unfold Addr.add;split<;>simp_all
    rw[an,G,<-u];simp[xP,z]) (λj u=>by
    rw[Nat.zero_add];obtain⟨d,D⟩:=vf y (i:=j) (by rw[v];simpa [xP]using u);rw[D];rfl) (λj u=>y.frozen _) (by intro d D;obtain⟨i,_,rfl⟩:=List.mem_map.1 D;rfl)]
   simp[goInt,xP]
  ·have A:∀(m:List Value) (o:Nat) (k:World) (c:List Value),PR k w.heap.size c->o+m.length<=c.length->PR (k.setCells w.heap.size o m) w.heap.size (c.take o++m++c.drop (o+m.length)):=by
    intro m;induction m with
    |nil=>intro o k c t _;simpa [World.setCells]using t
    |cons d r ih=>
     intro o k c t N;have n:=ih (o+1) _ _ (aQ t o d) (by simp at N ⊢;omega);unfold World.setCells;have a0:o < c.length:=by simp at N;omega
     have e:(c.set o d).take (o+1)++r++(c.set o d).drop (o+1+r.length)=c.take o++(d::r)++c.drop (o+(d::r).length):=by
      rw[List.take_set,List.drop_set_of_lt (by omega),zO,show o+(r.length+1)=o+1+r.length by omega];have:(c.take (o+1)).set o d=c.take o++[d]:=by
       have S:(c.take o).length=o:=by rw[List.length_take];omega
       rw[zG,zE a0];show (c.take o++[c[o]]).set o d=_;rw[List.set_append_right _ _ (by omega),S,Nat.sub_self];rfl
      rw[this];simp
     rw[<-e];exact n
   have:=A (xP b) 0 f _ y (by rw[v];simp[xP]);simp only[List.take_zero,List.nil_append,Nat.zero_add]at this;rw[List.drop_of_length_le (by rw[v];simp[xP]),List.append_nil]at this;exact this
  ·have A:∀(m:List Value) (o:Nat) (k:World),Far (·=w.heap.size) k (k.setCells w.heap.size o m):=by
    intro m;induction m with
    |nil=>intro o k;exact ξ _ _
    |cons d r ih=>
     intro o k;unfold World.setCells;exact((ξ (·=w.heap.size) k).setCell (p:=⟨w.heap.size,o,O⟩) (λ_=>rfl) d).trans (ih _ _)
   exact s.trans ((A _ 0 f).to_below s.size (λi E e=>by omega))
end
section
attribute [local go_sem] ak
theorem mm(a1:Nat)(v:Value)(b c:List Nat)(l:Value)(G:NS)(S T:Nat)(w:World)(F:b.length<=1000000)(u:Row w G b.length l (xP b))(r:w.heap[S]? =W (J #[.int I (a1:Int),v,.map (W T)] 251 (0,0)))(o:xW π 3 w T (atM c 0))(bs:c.Nodup)(ba:∀i∈c,i<=9223372036854775807)(bn:∀j∈b,j∈c):
 Calls π 88 #[.pointer (W ⟨S,0,O⟩),l] w λe w'=>(∃R,e=ρ R/\Row w' (New w) b.length R (xP (b.map λj=>Tp.idx c j)))/\Below w.heap.size w w':=by
 obtain⟨ca,ab,A,x,d,k⟩:=mw b l G w F u;obtain⟨a,bR,rfl,_⟩:=u.form;obtain⟨q,D⟩:∃q,w.heap.size=q:=⟨_,rfl⟩;rw[D]at A x d;have E:=(k.block _ (lt_of_heap r)).trans r;have L:=o.below k o.lt;have b9:=lt_of_heap r;have b0:=o.lt;obtain⟨f,av⟩:∃f,b.length=f:=⟨_,rfl⟩;rw[av]at A x F u ⊢;obtain⟨bw,an,a9,a0,m⟩:=zx5 d k E L D;clear d k E L u r o D
 go_enter func88,ntmps88
 go_wp2_with fail
 clear A x
 go_loopw [16] (λs wr=>∃t:Nat,t<=f/\s=.int I (t:Int)/\PR wr q (xP ((b.take t).map λj=>Tp.idx c j)++xP (b.drop t))/\Far (·=q) ab wr) (λs _=>f - (Lib.intOf s).toNat)
 case atStart=>exact⟨0,z_ _,rfl,bw.out,ξ _ _⟩
 case round=>
  obtain⟨t,b1,rfl,d,g⟩:=hrel;by_cases a3:t < f
  ·obtain⟨j,n⟩:∃j,b[t]? =W j:=⟨_,zE (by rw[av];exact a3)⟩
   have H:=bn j (zL n);have z:(xP ((b.take t).map λj=>Tp.idx c j)).length=t:=by simp[xP];omega
   have ad:xP (b.drop t)=.int I (j:Int)::xP (b.drop (t+1)):=by rw[aE b t j n];rfl
   rw[ad]at d;have b5:wr.cell? ⟨q,t,O⟩=W (.int I (j:Int)):=d.cell (by rw[zV (by omega),z,Nat.sub_self];rfl);have b8:=d.frozen t;have P:=g.heap a9.out (by have:=m.out;omega);have ao:=a0.out.far g (by have:=m.out;omega);obtain⟨bx,bD,b2,_⟩:=bv P;have be:=ao.look_in bh underlying249 (gC _) (.int I (j:Int)) (bW j (ba j H)) false _ (sK c 0 j H) (λp d bm=>mW c 0 j bs p d bm);simp only[Bool.false_eq_true,if_false,Nat.zero_add]at be;have C:=aQ d t (.int I ((c.idxOf j:Nat):Int));have al:(xP ((b.take t).map λj=>Tp.idx c j)++.int I (j:Int)::xP (b.drop (t+1))).set t (.int I ((c.idxOf j:Nat):Int))=xP ((b.take (t+1)).map λj=>Tp.idx c j)++xP (b.drop (t+1)):=by
    rw[List.set_append_right _ _ (by omega),z,Nat.sub_self,zB,zG,n];simp[xP,Tp.idx]
   rw[al]at C;have N:Far (·=q) ab (wr.setCell ⟨q,t,O⟩ (.int I ((c.idxOf j:Nat):Int))):=g.setCell (p:=⟨q,t,O⟩) (λ_=>rfl) _;have a2:(t:Int) < (f:Int):=by omega
   have b6:(0:Int)<=(t:Int):=by omega
   obtain⟨a5,a4⟩:=zx2 C N;clear d g C N al ad n ao P z;generalize ((c.idxOf j:Nat):Int)=X at *
   go_wp2_with fail
   go_roundw
   case rel=>exact⟨t+1,by omega,by go_num,a5.out,a4.out⟩
   case measure=>simp[Lib.intOf];omega
  ·obtain rfl:t=f:=by omega
   have a2:¬(t:Int) < (t:Int):=by omega
   rw[zR (by omega),List.drop_of_length_le (by omega)]at d;have y:PR wr q (xP (b.map λj=>Tp.idx c j)):=by simpa [xP]using d
   have ac:Row wr (New w) t (Y (W ⟨q,0,O⟩) t t) (xP (b.map λj=>Tp.idx c j)):=⟨_,q,0,t,rfl,⟨η _,by unfold maxLen;omega⟩,λ_=>by have:=m.out;show w.heap.size<=q;omega,λ_=>⟨rfl,y.lt,λi b4 bk=>by rw[Nat.zero_add];exact y.cell bk⟩⟩;have M:Below w.heap.size w wr:=an.out.trans (g.to_below an.out.size (λi b3 e=>by have:=m.out;omega));obtain⟨bb,a6⟩:=zx2 ac M;clear d y g ac M
   go_wp2_with fail
   go_ret
   exact⟨⟨_,rfl,bb.out⟩,a6.out⟩
end
section
attribute [local go_sem] ak
theorem mI:(prog.info? 185).map (λi=>(i.zero,i.size,i.bytes))=W (W (γ #[V I 0,V I 0,V I 0,U ⟨#[]⟩,Y O 0 0,Y O 0 0]),6,88):=by kernel_rfl
def AM(g:List Tp.Nd)(a:List Nat)(i:Nat):Tp.Nd:=let x:=g.getD i ⟨0,Tp.Sc.null,[],[]⟩;⟨x.k,x.x,Tp.keysOf x,(Tp.kidsOf x).map λj=>Tp.idx a j⟩
structure TyI(w4:World)(q7:Nat)(outs:List Tp.Nd)(t:Nat)(sa:Option Addr)(sn sc:Nat)(W:World):Prop where
 hd:W.heap[q7]? =some (J #[V I 0,Y sa sn sc] 54 (0,0))
 row:∃cs KG,W.ownsRow w4.heap.size 185 6 (Y sa sn sc) t cs/\xX W KG (outs.take t) cs/\∀k,KG k->w4.heap.size<=k/\k < W.heap.size/\(Value.slice sa sn sc).ownBlock≠some k
 far:Far (·=q7) w4 W
theorem TyI.step{b:World}{c:Nat}{i:List Tp.Nd}{t:Nat}{l:Option Addr}{j m:Nat}{g n:World}(u:TyI b c i t l j m g)(w:c < b.heap.size)(a:Far xO g n):TyI b c i t l j m n:=by
 obtain⟨q,⟨p,v,o,s,f⟩,r⟩:=u;exact⟨a.heap q id,⟨p,v,am o a (λ_ _ e=>e),xX.far a (λ_ _ _ e=>e) _ _ s,λk d=>⟨(f k d).1,zK (f k d).2.1 a.size,(f k d).2.2⟩⟩,r.step a (λ_ _ e=>e.elim)⟩
theorem TyI.grow{j:World}{b:Nat}{u:List Tp.Nd}{t:Nat}{g:Option Addr}{f i gg cap:Nat}{x:Tp.Nd}{kv A:Value}{c o:World}(a:TyI j b u t g f i c)(ad:b < j.heap.size)(T:u[t]? =W x)(l:NS)(s:∀k,l k->j.heap.size<=k/\k < c.heap.size/\(Value.slice g f i).ownBlock≠W k)
(d:Row c l x.keys.length kv (xV x.keys))(F:Row c l x.kids.length A (xP x.kids))(m:Far (λk=>(Value.slice g f i).ownBlock=W k) c o)(H:(Value.slice g f i).ownBlock=W gg\/c.heap.size<=gg)
(C:List Value)(r:NS)(S:xX c r (u.take t) C)(v:∀k,r k->j.heap.size<=k/\k < c.heap.size/\(Value.slice g f i).ownBlock≠W k)
(z:o.ownsRow j.heap.size 185 6 (Y (W ⟨gg,0,O⟩) (t+1) cap) (t+1) (C++[V I x.k,V I x.x.k,V I x.x.n,xR x.x.s,kv,A])):
 TyI j b u (t+1) (W ⟨gg,0,O⟩) (t+1) cap (o.setCell ⟨b,1,O⟩ (Y (W ⟨gg,0,O⟩) (t+1) cap)):=by
 have X:¬(Value.slice g f i).ownBlock=W b:=λe=>by
  obtain⟨_,⟨R,N,w,_,_⟩,_⟩:=a;have:=(w.lt b e).1;omega
 have L:gg≠b:=by
  have:=(z.lt gg rfl).1;omega
 have M:=m.heap a.hd X;have n:Far (·=b) o (o.setCell ⟨b,1,O⟩ (Y (W ⟨gg,0,O⟩) (t+1) cap)):=Far.setCell (D:=(·=b)) (ξ _ _) (p:=⟨b,1,O⟩) (λ_=>rfl) _;have G:∀k,j.heap.size<=k/\k < c.heap.size/\(Value.slice g f i).ownBlock≠W k->(Value.slice (W ⟨gg,0,O⟩) (t+1) cap).ownBlock≠W k:=λk d e=>by
  simp[Value.ownBlock]at e
  subst e;rcases H with a|a
  ·exact d.2.2 a
  ·omega
 have q:∀(K:NS),(∀k,K k->j.heap.size<=k/\k < c.heap.size/\(Value.slice g f i).ownBlock≠W k)->(∀k,K k->k < c.heap.size->¬(λk=>(Value.slice g f i).ownBlock=W k) k)/\(∀k,K k->k < o.heap.size->¬k=b):=λK E=>⟨λk d _ e=>(E k d).2.2 e,λk d _ e=>by have:=(E k d).1;omega⟩;refine⟨ai M 1 _,⟨_,λk=>r k\/l k,am z n (λk e a=>by injection e with e;exact L (e.trans a)),?_,λk d=>?_⟩,(a.far.step m (λk d e=>?_)).step n (λk _ e=>e)⟩
 ·rw[zG,T]
  have ab:=xX.far n (q r v).2 _ _ (xX.far m (q r v).1 _ _ S);have ac:=(d.far m (q l s).1).far n (q l s).2;have P:=(F.far m (q l s).1).far n (q l s).2;exact xX.snoc (ac.mono (λ_ a _=>.inr a)) (P.mono (λ_ a _=>.inr a)) _ _ (xX.mono (λ_ a _=>.inl a) _ _ ab)
 ·have y:j.heap.size<=k/\k < c.heap.size/\(Value.slice g f i).ownBlock≠W k:=by
   rcases d with a|a
   ·exact v k a
   ·exact s k a
  exact⟨y.1,zK y.2.1 (Nat.le_trans m.size n.size),G k y⟩
 ·obtain⟨_,⟨R,N,w,_,_⟩,_⟩:=a
  have:=(w.lt k e).1;omega
end
end Go.Proofs.YtbikgdhbiebhcaaGreatDoor
