/- Part 4. -/
import Derived.Test.YtbikgdhbiebhcaaGreatDoorW03
set_option linter.unusedVariables false
set_option linter.unusedSimpArgs false
set_option maxRecDepth 100000
set_option maxHeartbeats 2000000
open Go.Value renaming int -> V, string -> U, slice -> Y, pointer -> Z, func -> φ, agg -> γ, bool -> β
open Go.IntKind renaming i64 -> I
open Option renaming some -> W, none -> O
open Go.Obj renaming cells -> J
open Go.Ending renaming returned -> ρ
open Go.Proofs.Tryz renaming prog -> π
open Nat renaming le_refl -> η
open Go.RowKit.Below renaming refl -> ζ
namespace Go.Proofs.YtbikgdhbiebhcaaGreatDoor
open Go.RowKit Tryz
section
attribute [local go_sem ↓] Go.wp_at_zero Go.wp_at_succ
attribute [local go_sem] ak
def AH(w:World)(a:Nat):Nat:=(Lib.intOf ((w.cell? ⟨a,1,O⟩).getD undef)).toNat
theorem gz{w:World}{a:Nat}{s:ByteArray}{p d:Nat}(b:yb w a s p d):AH w a=p:=by
 unfold AH;rw[ae b 1];show ((p:Int)).toNat=p;exact Int.toNat_natCast p
theorem oF(a:Nat)(s:ByteArray)(p d:Nat)(db:s.size<=100000)(e0:p < s.size)(C:Tp.okPlain (Tp.trimR ((s.data.toList.drop p).take (Tp.ptake d (yF s p) (s.data.toList.drop p))))=true)(w:World)(bs:Glob w)(ex:10<=a)(ao:yb w a s p d):
 Calls π 234 #[Z (W ⟨a,0,O⟩)] w (yh w a s (p+Tp.ptake d (yF s p) (s.data.toList.drop p)) d ⟨1,Tp.trimR ((s.data.toList.drop p).take (Tp.ptake d (yF s p) (s.data.toList.drop p))),p⟩):=by
 obtain⟨ac,E,c1⟩:=fH s d _ p rfl;obtain⟨f,ch⟩:∃f,Tp.ptake d (yF s p) (s.data.toList.drop p)=f:=⟨_,rfl⟩;rw[ch]at ac E c1 C ⊢;have e1:p+f<=s.size:=by omega
 have b5:=(ci _ C).1;have b3:∀i,i<=f->yC s (p+i) [58]=true->Tp.closed d (s.data.toList.drop (p+i+1))=true:=by
  intro i al b6;by_cases dc:p+i < s.size
  ·have cf:p+i < s.data.toList.length:=by rw[ap];exact dc
   have d2:=zE cf;rw[bf s (p+i) _ d2]at b6;have bm:s.data.toList[p+i]=58:=by simpa using b6
   rcases Nat.lt_or_ge i f with j|j
   ·have b4:s.data.toList[p+i]∈(s.data.toList.drop p).take f:=by
     rw[List.mem_take_iff_getElem];exact⟨i,by rw[zZ];omega,by rw[List.getElem_drop]⟩
    rw[bm]at b4;rcases fe _ _ b4 with j|j
    ·have:=b5 _ j;exact absurd this (by decide)
    ·exact absurd j (by decide)
   ·obtain rfl:i=f:=by omega
    have d1:=zW cf;rw[sp s (p+i) d _ _ d1,bm]at E
    simpa [Tp.flowC]using E
  ·rw[List.drop_eq_nil_of_le (by rw[ap];omega)]
   rfl
 have b9:∀i c,i<=f->yb c a s (p+i) d->Calls π 266 #[Z (W ⟨a,0,O⟩)] c λe w'=>e=ρ (β (Az s (p+i) d))/\Below c.heap.size c w':=λi c al j=>rm a s (p+i) d (by omega) db (b3 i al) c j;obtain⟨y,bb⟩:∃y,s.extract p (p+f)=y:=⟨_,rfl⟩;have eq:∀c,(Instr.slice 9 (U s) (W (V I (p:Int))) (W (V I ((p+f:Nat):Int))) O).run π c=.ok (U y) c:=by
  intro c;have j:=run_slice_string (P:=π) c 9 s I I (p:Int) ((p+f:Nat):Int) underlying9 (by omega) (by omega) (by omega);rw[Int.toNat_natCast,Int.toNat_natCast,bb]at j;exact j
 have a5:y.data.toList=(s.data.toList.drop p).take f:=by
  rw[<-bb,ByteArray.data_extract,Array.toList_extract,List.extract_eq_take_drop,Nat.add_sub_cancel_left]
 have c6:y.size<=100000:=by rw[<-ap,a5,List.length_take,zZ,ap];omega
 have ab:=λc=>strings_TrimRight_one y 32 (by decide) c (by omega);rw[pO,a5]at ab;obtain⟨z,a6⟩:∃z,Tp.trimR ((s.data.toList.drop p).take f)=z:=⟨_,rfl⟩;rw[a6]at ab C ⊢;obtain⟨b,ad⟩:∃b:ByteArray,(⟨z.toArray⟩:ByteArray)=b:=⟨_,rfl⟩;have a2:b.data.toList=z:=by rw[<-ad]
 have bR:∀c,Calls π 104 #[U y,U ⟨#[32]⟩] c λe w'=>e=ρ (U b)/\w'=c:=λc=>by rw[<-ad];exact ab c
 have b1:b.size<=100000:=by
  rw[<-ap,a2,<-a6];have:∀l:Tp.B,(Tp.trimR l).length<=l.length:=by
   intro l;unfold Tp.trimR;rw[List.length_reverse];have:=(List.dropWhile_sublist (λx:UInt8=>x.toNat==32) (l:=l.reverse)).length_le
   simpa using this
  have dn:=this ((s.data.toList.drop p).take f);rw[List.length_take,zZ,ap]at dn;omega
 have b8:=λa4=>re b a4 b1 (by rw[a2];exact C);have c9:=lt_of_heap ao;have cv:yb ((w.alloc (J #[V I 0,U ⟨#[]⟩,V I 0] 305)).alloc (J #[V I 1,U ⟨#[]⟩,V I (p:Int)] 305)) a s (p+0) d:=aa _ (aa _ ao);have cm:((w.alloc (J #[V I 0,U ⟨#[]⟩,V I 0] 305)).alloc (J #[V I 1,U ⟨#[]⟩,V I (p:Int)] 305)).heap[w.heap.size]? =W (J #[V I 0,U ⟨#[]⟩,V I 0] 305):=aa _ (af w _);have c3:((w.alloc (J #[V I 0,U ⟨#[]⟩,V I 0] 305)).alloc (J #[V I 1,U ⟨#[]⟩,V I (p:Int)] 305)).heap[w.heap.size+1]? =W (J #[V I 1,U ⟨#[]⟩,V I (p:Int)] 305):=ah _ _ _ (by simp);have cc:Far (·=a) w ((w.alloc (J #[V I 0,U ⟨#[]⟩,V I 0] 305)).alloc (J #[V I 1,U ⟨#[]⟩,V I (p:Int)] 305)):=((ξ _ w).alloc _).alloc _;have L:(w.alloc (J #[V I 0,U ⟨#[]⟩,V I 0] 305)).cell? ⟨a,1,O⟩=W (V I (p:Int)):=ae (aa _ ao) 1;obtain⟨dr,d5,df,ds,d0,d3⟩:=zx6 bs b9 b8 bR ac E;obtain⟨dp,bx,c0,cb,b0⟩:=zx5 ad cv cm c3 cc;clear bs b9 b8 bR ac E ad a6 C b3 ch bb a5 c6 ab a2 b1 ao cv cm c3 cc c1 b5
 go_enter func234,ntmps234
 go_wp2_with fail
 go_loopw [] (λwr=>∃i:Nat,i<=f/\yb wr a s (p+i) d/\wr.heap[w.heap.size]? =W (J #[V I 0,U ⟨#[]⟩,V I 0] 305)/\wr.heap[w.heap.size+1]? =W (J #[V I 1,U ⟨#[]⟩,V I (p:Int)] 305)/\Far (·=a) w wr) (λwr=>p+f - AH wr a)
 case atStart=>exact⟨0,z_ _,bx.out,c0.out,cb.out,b0.out⟩
 case round=>
  obtain⟨i,al,n,N,H,S⟩:=hrel;have d4:AH wr a=p+i:=gz n;obtain⟨a9,c2,bn,c5⟩:=zx4 n N H S;clear n N H S L bx c0 cb b0
  go_wp2_with fail
  refine(d5.out i wr al a9.out).mono ?_;rintro e q ⟨rfl,G⟩;have n:=a9.out.below G (lt_of_heap a9.out);have N:=(G.block _ (lt_of_heap c2.out)).trans c2.out;have H:=(G.block _ (lt_of_heap bn.out)).trans bn.out;have S:=c5.out.below G;obtain⟨X,av,A,ba⟩:=zx4 n N H S;clear G N H S;rcases Nat.lt_or_ge i f with a0|a0
  ·rw[d0.out i a0]
   have L:=zF n 1 rfl;have ca:=ag n 1;have dv:IntKind.i64.wrap (((p+i:Nat):Int)+1)=((p+(i+1):Nat):Int):=by rw[show ((p+i:Nat):Int)+1=((p+(i+1):Nat):Int)by omega];exact zU _ (by omega)
   generalize ((p+i:Nat):Int)=ct at *;obtain⟨R,a1⟩:∃R:Int,((p+(i+1):Nat):Int)=R:=⟨_,rfl⟩;rw[a1]at dv;have bk:=zD a1;clear n a1
   go_wp2_with fail
   go_roundw
   case rel=>
    refine⟨i+1,a0,?_,(Below.heap_setCell _ _ _ _ (by show w.heap.size≠a;omega)).trans av.out,(Below.heap_setCell _ _ _ _ (by show w.heap.size+1≠a;omega)).trans A.out,ba.out.setCell (p:=⟨a,1,O⟩) (λ_=>rfl) _⟩;have:=ai X.out 1 (V I R);rw[<-bk.out]at this ⊢;exact this
   case measure=>
    have:=ai X.out 1 (V I R);rw[d4,show AH (q.setCell ⟨a,1,O⟩ (V I R)) a=p+(i+1)by rw[<-bk.out]at this ⊢;exact gz (d:=d) (s:=s) this];omega
  ·obtain rfl:i=f:=by omega
   rw[d3.out];have cl:=zF n 0 rfl;have L:=zF n 1 rfl;have T:=zF n 2 rfl;have bw:=zF A.out 2 rfl;have an:=zF A.out 1 rfl;have ca:=ag A.out 1;have o:yb (q.setCell ⟨w.heap.size+1,1,O⟩ (U b)) a s (p+i) d:=(Below.heap_setCell _ _ _ _ (by show a≠w.heap.size+1;omega)).trans X.out;have g:(q.setCell ⟨w.heap.size+1,1,O⟩ (U b)).heap[w.heap.size]? =W (J #[V I 0,U ⟨#[]⟩,V I 0] 305):=(Below.heap_setCell _ _ _ _ (by show w.heap.size≠w.heap.size+1;omega)).trans av.out;have m:(q.setCell ⟨w.heap.size+1,1,O⟩ (U b)).heap[w.heap.size+1]? =W (J #[V I 1,U b,V I (p:Int)] 305 (0,0)):=ai A.out 1 _;have t:Far (·=a) w (q.setCell ⟨w.heap.size+1,1,O⟩ (U b)):=ba.out.setCell (p:=⟨w.heap.size+1,1,O⟩) (λj=>by have j:w.heap.size+1 < w.heap.size:=j;omega) _;have b2:=zF o 0 rfl;have ck:=zF o 1 rfl;have co:=zF m 2 rfl;obtain⟨r,v,D,F⟩:=zx4 o g m t;clear o g m t;generalize ((p+i:Nat):Int)=ct at *;clear n
   go_wp2_with fail
   go_region_held3 (λw'=>w'.cell? ⟨a,0,O⟩=W (U s)/\w'.cell? ⟨a,1,O⟩=W (V I ct)/\w'.cell? ⟨w.heap.size+1,2,O⟩=W (V I (p:Int))) (first|(with_reducible exact⟨cl,L,bw⟩)|exact⟨b2,ck,co⟩|go_keep) (first|(go_at_call 104;refine(ds.out _).mono ?_;rintro e a3 ⟨rfl,rfl⟩))
   have o:yb (q.setCell ⟨w.heap.size+1,1,O⟩ (U b)).drew a s (p+i) d:=r.out;have g:(q.setCell ⟨w.heap.size+1,1,O⟩ (U b)).drew.heap[w.heap.size]? =W (J #[V I 0,U ⟨#[]⟩,V I 0] 305):=v.out;have m:(q.setCell ⟨w.heap.size+1,1,O⟩ (U b)).drew.heap[w.heap.size+1]? =W (J #[V I 1,U b,V I (p:Int)] 305 (0,0)):=D.out;have t:Far (·=a) w (q.setCell ⟨w.heap.size+1,1,O⟩ (U b)).drew:=F.out.drew;clear b2 ck co cl L T an bw ca r v D F X av A ba
   go_upto_region 5 with (fail)
   generalize (q.setCell ⟨w.heap.size+1,1,O⟩ (U b)).drew=M at *;have T:=zF o 2 rfl;have an:=zF m 1 rfl;have be:Glob M.drew:=dr.out.far t.drew (λk C e=>by omega);have c4:=zD (λa4=>df.out a4 M.drew be);obtain⟨r,v,D,F⟩:=zx4 o g m t;have da:=lt_of_heap m;clear o g m t be
   go_region_held3 (λw'=>w'.cell? ⟨a,2,O⟩=W (V I (d:Int))/\w'.cell? ⟨w.heap.size+1,1,O⟩=W (U b)) (first|(with_reducible exact⟨T,an⟩)|exact⟨ae (yb.below (w:=M) r.out u (lt_of_heap r.out)) 2,ae ((u.block _ da).trans D.out) 1⟩|go_keep) (first|(go_at_call 267;refine(c4.out _).mono ?_;rintro e a3 ⟨rfl,bD⟩;have u:Below M.heap.size M a3:=bN bD))
   all_goals (
    have o:=r.out.below u (lt_of_heap r.out);have g:=(u.block _ (lt_of_heap v.out)).trans v.out;have m:=(u.block _ (lt_of_heap D.out)).trans D.out;have t:=F.out.below u;obtain⟨r,v,F⟩:=zx3 o g t;have ei:=zF m 0 rfl;have er:=zF m 1 rfl;have d6:=zF m 2 rfl;have eg:=zF g 0 rfl;have ac:=zF g 1 rfl;have E:=zF g 2 rfl;have es:=ag g 0;have en:=ag g 1;have e2:=ag g 2;clear o g m t u bD T an
    go_wp2_with fail
    rw[show (U b:Value)=xR z by rw[<-dp.out];rfl];exact aF results234 w a3 a s (p+i) d ⟨1,z,p⟩ _ v.out r.out F.out c9 rfl rfl)
end
theorem qH(s:ByteArray)(R:s.size<=1000000)(w:World):Calls π 101 #[γ #[U s]] w λe w'=>e=ρ (β (Ln.plainB s.data.toList))/\Below w.heap.size w w':=by
 obtain⟨d,r⟩:∃d,Ln.plainB s.data.toList=d:=⟨_,rfl⟩;rw[r];have E:=zD r;clear r
 go_enter func101,ntmps101
 go_wp2_with fail
 go_loopw [4] (λ_ wr=>∃a:Nat,wr.heap[w.heap.size+1]? =W (.stringIter s a)/\Ln.plainB (s.data.toList.drop a)=d/\a<=s.size/\Below w.heap.size w wr) (λ_ wr=>s.size - wr.iterPos (w.heap.size+1))
 case atStart=>exact⟨0,by have:=World.iter_heap (w.alloc (Obj.cells #[Value.string s] 134)) s 0;simpa using this,by rw[List.drop_zero];exact E.out,z_ _,((ζ _ _).alloc (η _) _).alloc (by simp) _⟩
 case round=>
  obtain⟨a,f,k,S,m⟩:=hrel;by_cases x:a < s.size
  ·have o:∀c,(Instr.next (Z (W ⟨w.heap.size+1,0,O⟩)) true c).run π wr=_:=λc=>Lib.run_next_any_at wr (w.heap.size+1) s a c f x
   rw[aX]at o;obtain⟨b,i⟩:∃b,(Ln.dec (s.data.toList.drop a)).1=b:=⟨_,rfl⟩;obtain⟨n,j⟩:∃n,(Ln.dec (s.data.toList.drop a)).2=n:=⟨_,rfl⟩;have g:s.data.toList.drop a≠[]:=by
    intro e;have:=congrArg List.length e;simp only[zZ,ap,List.length_nil]at this;omega
   have N:1<=n:=by rw[<-j];exact Ln.dq _
   have G:a+n<=s.size:=by
    have:=Ln.dX _ g;simp only[zZ,ap]at this;omega
   rw[i,j]at o;have F:wr.iterPos (w.heap.size+1)=a:=by simp[World.iterPos,f]
   have l:=bL wr (w.heap.size+1) s s a (a+n) f;have v:(wr.iterAt (w.heap.size+1) s (a+n)).iterPos (w.heap.size+1)=a+n:=by simp[World.iterPos,l]
   have z:Below w.heap.size w (wr.iterAt (w.heap.size+1) s (a+n)):=m.trans (bu _ _ _ _ _ (Nat.le_succ _));have y:(b < 32\/b=127)->d=false:=λq=>by
    rw[<-k];exact Ln.j6 _ g (by rw[i];exact q)
   have t:¬(b < 32\/b=127)->Ln.plainB (s.data.toList.drop (a+n))=d:=λq=>by
    rw[<-k,Ln.ia _ g (by rw[i];exact q),j,List.drop_drop]
   obtain⟨H,u,D,A,p⟩:=zx5 t y l v z;clear t y k i j g m f l v z;by_cases P:(b:Int) < 32
   ·obtain rfl:=u.out (.inl (by omega))
    go_wp2_with fail
    go_ret
    exact⟨rfl,p.out⟩
   ·by_cases M:(b:Int)=127
    ·obtain rfl:=u.out (.inr (by omega))
     go_wp2_with fail
     go_ret
     exact⟨rfl,p.out⟩
    ·have C:=H.out (by omega)
     go_wp2_with fail
     go_roundw
     case rel=>exact⟨a+n,D.out,C,G,p.out⟩
     case measure=>rw[A.out,F];omega
  ·have o:∀c,(Instr.next (Z (W ⟨w.heap.size+1,0,O⟩)) true c).run π wr=_:=λc=>Lib.run_next_end_at wr (w.heap.size+1) s a c f x
   have L:d=true:=by
    rw[<-k,List.drop_eq_nil_of_le (by rw[ap];omega),Ln.qG]
   subst L
   go_wp2_with fail
   go_ret
   exact⟨rfl,m⟩
def yT(s:ByteArray):Value:=if Ln.plainB s.data.toList then (if Ln.markB s.data.toList then .iface 212 (γ #[])else .nilIface)else .iface 211 (γ #[])
theorem lK(s:ByteArray)(i:s.size<=1000000)(w:World):Calls π 71 #[γ #[U s]] w λe w'=>e=ρ (yT s)/\Below w.heap.size w w':=by
 have c:=λw=>qH s i w;have d:=λw=>tQ s w;unfold yT;generalize Ln.plainB s.data.toList=p at c ⊢;generalize Ln.markB s.data.toList=m at d ⊢;have k:∀w:World,(w.alloc (Obj.cells #[Value.string s] 134)).cell? ⟨w.heap.size,0,O⟩=W (U s):=λw=>ae (af w _) 0;cases p with
 |false=>
  go_enter func71,ntmps71
  go_wp2_with fail
  refine(c _).mono ?_;rintro e f ⟨rfl,a⟩
  go_wp2_with fail
  go_ret
  exact⟨rfl,((ζ _ _).alloc (η _) _).trans (a.mono (by simp))⟩
 |true=>
  go_enter func71,ntmps71
  go_wp2_with fail
  refine(c _).mono ?_;rintro e f ⟨rfl,a⟩;have b:Below w.heap.size w f:=((ζ _ _).alloc (η _) _).trans (a.mono (by simp));have l:f.cell? ⟨w.heap.size,0,O⟩=W (U s):=ae ((a.block _ (by simp)).trans (af w _)) 0;clear a;cases m with
  |true=>
   go_wp2_with fail
   refine(d _).mono ?_;rintro e j ⟨rfl,g⟩
   go_wp2_with fail
   go_ret
   exact⟨rfl,b.trans (g.mono b.size)⟩
  |false=>
   go_wp2_with fail
   refine(d _).mono ?_;rintro e j ⟨rfl,g⟩
   go_wp2_with fail
   go_ret
   exact⟨rfl,b.trans (g.mono b.size)⟩
theorem oA{X:Bool}{P:Program}{n:Nat}{g:Operand}{ps:Array Tmp}{assign body:Code}{Q:Exit->Act->World->Prop}{a:Act}{w:World}{gf:Nat}{lb:Array Value}{N:Nat}{enc:Nat->Array Value}{R S:World->World->Prop}{Fin:World->Prop}
(hg:a.eval g=φ (.func gf) #[] lb)(eg:∀args w,(callFunc gf args).run P w=.ok (.enter gf args) w)
(hiter:AZ X P gf lb (n - 1 - 1) N enc R S Fin w)(hF:∀W W',Fin W->Far (·=w.heap.size+1) W W'->Fin W')(hR:∀W W',R W W'->Far (λk=>k≠w.heap.size/\k≠w.heap.size+1) W W')
(hS:∀A B C D,Far (·=w.heap.size+1) A B->S B C->Far (·=w.heap.size+1) C D->S A D)(hps:∀t,(enc t).size=ps.size)
(I:Nat->World->Prop)(Ix:Code->World->Prop)
(hIr:∀t W W',I t W->R W W'->I t W')(hIxr:∀c W W',Ix c W->R W W'->Ix c W')
(hI:∀t W W',I t W->Far (·=w.heap.size+1) W W'->I t W')(hIx:∀c W W',Ix c W->Far (·=w.heap.size+1) W W'->Ix c W')
(hX:X=false->∀c W,¬Ix c W)(h0:I 0 w)(A:Nat->Act->World->Prop)(hA:∀t a W W',A t a W->Far (·=w.heap.size+1) W W'->A t a W')(hS2:∀A B C,S A B->S B C->S A C)
(hassign:∀t W (K:Act->World->Prop),t < N->w.heap.size+1 < W.heap.size->I t W->(∀a₁ W',A t a₁ W'->Far (λk=>k≠w.heap.size/\k≠w.heap.size+1) W W'->S W W'->K a₁ W')->assign.wpIn (Fence.wide.inRound (w.heap.size+1)) (n - 1 - 1) P (Exit.then K (λ_ _ _=>False)) { tmps:=(ps.zip (enc t)).foldl (λs (p,v)=>s.setIfInBounds p v) a.tmps,defers:=[] } W)
(hbody:∀t a₁ W,t < N->w.heap.size+1 < W.heap.size->A t a₁ W->body.wpIn (Fence.wide.inRound (w.heap.size+1)) (n - 1 - 1) P (AG (I (t+1)) Ix w.heap.size S W) a₁ W)
(hdone:∀W,I N W->Fin W->W.heap[w.heap.size]? =some (.deferred (some []))->Q .normal { a with defers:={ target:=.collected w.heap.size,args:=#[] }::a.defers } W)
(hstop:∀c W,Ix c W->W.heap[w.heap.size]? =some (.deferred (some []))->c.wpIn Fence.wide n P Q { a with defers:={ target:=.collected w.heap.size,args:=#[] }::a.defers } W):
 (Code.rangeFunc g ps assign body).wpIn Fence.wide n P Q a w:=by
 refine wpIn_rangeFunc ?_;intro fn hfn;obtain⟨rec,hrec⟩:∃rec:LoopState->Option Code->Loop,rec=λst pe=>{ state:=st,pending:=pe,fn,tmps:=a.tmps,params:=ps,assign,body,defers:=w.heap.size }:=⟨_,rfl⟩;obtain⟨W1,hW1⟩:∃W1,(w.alloc (.deferred (some []))).alloc (.loop (rec .ready O))=W1:=⟨_,rfl⟩;have hL1:W1.heap[w.heap.size+1]? =some (.loop (rec .ready O)):=by
  rw[<-hW1];exact ah _ _ _ (by simp)
 have hK1:W1.heap[w.heap.size]? =some (.deferred (some [])):=by
  rw[<-hW1];exact aa _ (af w _)
 have hI1:I 0 W1:=by rw[<-hW1];exact hI 0 w _ h0 (((ξ _ _).alloc _).alloc _)
 have hb1:Below w.heap.size w W1:=by rw[<-hW1];exact((ζ _ w).alloc (η _) _).alloc (by simp) _
 refine⟨w.heap.size+1,[{ target:=.collected w.heap.size,args:=#[] }],W1,{ target:=.fn (.func gf) lb,args:=#[φ (.yield (w.heap.size+1)) #[] #[]] },W1,gf,
  #[φ (.yield (w.heap.size+1)) #[] #[]]++lb,W1,?_,?_,?_,?_,λh=>absurd h (by simp[Fence.wide]),?_⟩
 ·rw[<-hW1,hrec];exact run_enterLoop_outer _ _ _ _ _
 ·simp only[resolve,hg]
  simp[go_sem]
 ·intro f' _;trivial
 ·simp[invoke,go_sem,eg]
 ·refine callsIn_wide.2 ((hiter (w.heap.size+1)
   (λt W=>I t W/\W.heap[w.heap.size+1]? =some (.loop (rec .ready O))/\W.heap[w.heap.size]? =some (.deferred (some [])))
   (λW=>∃c,Ix c W/\W.heap[w.heap.size+1]? =some (.loop (rec .done (some c)))/\W.heap[w.heap.size]? =some (.deferred (some [])))
   W1 hb1 (by rw[<-hW1];simp) ?_ ?_ (λhx W ⟨c,hc,_⟩=>hX hx c W hc) ?_ ⟨hI1,hL1,hK1⟩).mono ?_)
  ·rintro t W W' ⟨hi,hl,hk⟩ hf
   exact⟨hIr t W W' hi hf,(hR _ _ hf).heap hl (λe=>e.2 rfl),(hR _ _ hf).heap hk (λe=>e.1 rfl)⟩
  ·rintro W W' ⟨c,hi,hl,hk⟩ hf
   exact⟨c,hIxr c W W' hi hf,(hR _ _ hf).heap hl (λe=>e.2 rfl),(hR _ _ hf).heap hk (λe=>e.1 rfl)⟩
  ·rintro t ht W0 ⟨hi,hl0,hk0⟩
   have hlt0:w.heap.size+1 < W0.heap.size:=lt_of_heap hl0;have hy:=run_yield (P:=P) (args:=enc t) hl0 (by rw[hrec];exact hps t);rw[hrec]at hy;refine⟨fn,_,assign,body,hy,roundIn_of_wpIn trivial (hassign t W0 _ ht hlt0 hi (λa₁ W hA1 hF1 hS1=>?_))⟩;have hl:=hF1.heap hl0 (λe=>e.2 rfl);have hk:=hF1.heap hk0 (λe=>e.1 rfl);have hlt:w.heap.size+1 < W.heap.size:=lt_of_heap hl;refine⟨_,run_beginRound hl (by rw[hrec]),?_⟩;have hl2:(W.putObj (w.heap.size+1) (.loop { rec .ready O with state:=.busy })).heap[w.heap.size+1]? =some (.loop { rec .ready O with state:=.busy }):=World.putObj_heap_same hlt;have hk2:(W.putObj (w.heap.size+1) (.loop { rec .ready O with state:=.busy })).heap[w.heap.size]? =some (.deferred (some [])):=(World.putObj_heap_other (by omega)).trans hk;have hf2:Far (·=w.heap.size+1) W (W.putObj (w.heap.size+1) (.loop { rec .ready O with state:=.busy })):=aI _ _ _;have hi2:=hA t a₁ W _ hA1 hf2;refine wpIn_mono (hbody t a₁ _ ht (by simpa using hlt) hi2) ?_;have fin:∀(jump:Option Code) (W3:World),(Far (λk=>k≠w.heap.size/\k≠w.heap.size+1) (W.putObj (w.heap.size+1) (.loop { rec .ready O with state:=.busy })) W3/\S (W.putObj (w.heap.size+1) (.loop { rec .ready O with state:=.busy })) W3)->
    (Instr.endRound (w.heap.size+1) jump).run P W3=.ok (β jump.isNone) (W3.putObj (w.heap.size+1) (.loop (rec (if jump.isNone then .ready else .done) jump)))/\
    (W3.putObj (w.heap.size+1) (.loop (rec (if jump.isNone then .ready else .done) jump))).heap[w.heap.size+1]? =some (.loop (rec (if jump.isNone then .ready else .done) jump))/\
    (W3.putObj (w.heap.size+1) (.loop (rec (if jump.isNone then .ready else .done) jump))).heap[w.heap.size]? =some (.deferred (some []))/\
    S W0 (W3.putObj (w.heap.size+1) (.loop (rec (if jump.isNone then .ready else .done) jump))):=λjump W3 hk3=>by
    have hl3:=hk3.1.heap hl2 (λe=>e.2 rfl);have hd3:=hk3.1.heap hk2 (λe=>e.1 rfl);have:=run_endRound (P:=P) jump hl3;rw[hrec]at this ⊢;refine⟨this,World.putObj_heap_same (lt_of_heap hl3),(World.putObj_heap_other (by omega)).trans hd3,?_⟩;rw[hrec]at hk3;rw[hrec]at hf2;exact hS2 _ _ _ hS1 (hS _ _ _ _ hf2 hk3.2 (aI _ _ _))
   have frl:∀(W3:World) (o:Obj),Far (·=w.heap.size+1) W3 (W3.putObj (w.heap.size+1) o):=λW3 o=>aI W3 _ o;rintro e a3 W3 hp;cases e with
   |normal=>
    obtain⟨hi3,hk3⟩:=hp;obtain⟨hr,hl4,hk4,hf4⟩:=fin O W3 hk3;exact⟨_,_,hr,.inl ⟨rfl,⟨hI _ _ _ hi3 (frl _ _),hl4,hk4⟩,hf4⟩⟩
   |ret=>
    obtain⟨hi3,hk3⟩:=hp;obtain⟨hr,hl4,hk4,hf4⟩:=fin (some .ret) W3 hk3;exact⟨_,_,hr,.inr ⟨rfl,.ret,hIx _ _ _ hi3 (frl _ _),hl4,hk4⟩⟩
   |exit id=>
    obtain⟨hi3,hk3⟩:=hp;obtain⟨hr,hl4,hk4,hf4⟩:=fin (some (.exit id)) W3 hk3;exact⟨_,_,hr,.inr ⟨rfl,.exit id,hIx _ _ _ hi3 (frl _ _),hl4,hk4⟩⟩
   |goto t=>
    obtain⟨hi3,hk3⟩:=hp;obtain⟨hr,hl4,hk4,hf4⟩:=fin (some (.goto t)) W3 hk3;exact⟨_,_,hr,.inr ⟨rfl,.goto t,hIx _ _ _ hi3 (frl _ _),hl4,hk4⟩⟩
   |panic ch=>exact hp.elim
   |outgrown=>exact hp.elim
  ·have frl:∀(W3:World) (o:Obj),Far (·=w.heap.size+1) W3 (W3.putObj (w.heap.size+1) o):=λW3 o=>aI W3 _ o
   rintro e W2 ⟨⟨v,rfl⟩,(⟨⟨hi,hl,hk⟩,hfin⟩|⟨c,hi,hl,hk⟩)⟩
   ·exact⟨O,_,by have:=run_endLoop (P:=P) hl (by rw[hrec];simp);rw[hrec]at this;exact this,hdone _ (hI _ _ _ hi (frl _ _)) (hF _ _ hfin (frl _ _)) ((World.putObj_heap_other (by omega)).trans hk)⟩
   ·exact⟨some c,_,by have:=run_endLoop (P:=P) hl (by rw[hrec];simp);rw[hrec]at this;exact this,hstop c _ (hIx c _ _ hi (frl _ _)) ((World.putObj_heap_other (by omega)).trans hk)⟩
section
attribute [local go_sem] ak
attribute [local go_sem] Oper.semAt_some
def ye(a:List Ln.Line):List Value:=a.flatMap λx=>[V I x.no,V I x.ind,U ⟨x.s.toArray⟩]
theorem eO(a b:List Ln.Line):ye (a++b)=ye a++ye b:=by simp[ye]
def AC(base:Nat)(v:Value)(a:List Ln.Line)(w:World):Prop:=w.ownsRow base 140 3 v a.length (ye a)
def SI(s:ByteArray)(w:World)(p:Nat)(t:Nat)(a:World):Prop:=
 (∃v,a.heap[p]? =W (J #[v] 101 (0,0))/\AC (p+4) v (Ln.lns 1 ((Ln.rows s.data.toList).take t)) a)/\
 a.heap[w.heap.size]? =W (J #[Y O 0 0] 101 (0,0))/\a.heap[w.heap.size+1]? =W (J #[V I 0] 3 (0,0))/\a.heap[w.heap.size+1+1]? =W (J #[V I 0] 24 (0,0))/\
 (∀b∈(Ln.rows s.data.toList).take t,Ln.trouble b=0)/\Below w.heap.size w a
def SX(s:ByteArray)(w:World)(a:World):Prop:=
 (Ln.bad 1 (Ln.rows s.data.toList)).2≠0/\a.heap[w.heap.size]? =W (J #[Y O 0 0] 101 (0,0))/\a.heap[w.heap.size+1]? =W (J #[V I (Ln.bad 1 (Ln.rows s.data.toList)).1] 3 (0,0))/\
 a.heap[w.heap.size+1+1]? =W (J #[V I (Ln.bad 1 (Ln.rows s.data.toList)).2] 24 (0,0))/\Below w.heap.size w a
theorem SI.far{s:ByteArray}{w:World}{p t q:Nat}{c d:World}(k:SI s w p t c)(a:Far (·=q) c d)(n:w.heap.size+3<=p)(m:p < q)(o:q < p+4):SI s w p t d:=by
 obtain⟨⟨v,f,l⟩,g,j,i,e,b⟩:=k;exact⟨⟨v,a.heap f (by omega),aw l a (by omega)⟩,a.heap g (by omega),a.heap j (by omega),a.heap i (by omega),e,b.trans (a.to_below b.size (by omega))⟩
theorem SX.far{s:ByteArray}{w:World}{p q:Nat}{c d:World}(g:SX s w c)(a:Far (·=q) c d)(k:w.heap.size+3<=p)(l:p < q):SX s w d:=by
 obtain⟨f,e,i,j,b⟩:=g;exact⟨f,a.heap e (by omega),a.heap i (by omega),a.heap j (by omega),b.trans (a.to_below b.size (by omega))⟩
theorem RS.fars{b q:Nat}{c B l D:World}(d:Far (·=q) c B)(f:RS b B l)(g:Far (·=q) l D)(j:b≠q)(i:5≠q):RS b c D:=
 ⟨Nat.le_trans d.size (Nat.le_trans f.1 g.size),λk x a e=>g.heap (f.2 k x a (d.heap e (by rcases a with rfl|rfl;exact j;exact i))) (by rcases a with rfl|rfl;exact j;exact i)⟩
theorem RS.of_far{c:Nat}{D:Nat->Prop}{a d:World}(b:Far D a d)(i:¬D c)(g:¬D 5):RS c a d:=
 ⟨b.size,λk x f e=>b.heap e (by rcases f with rfl|rfl;exact i;exact g)⟩
theorem RS.trans{a:Nat}{b B f:World}(c:RS a b B)(k:RS a B f):RS a b f:=⟨Nat.le_trans c.1 k.1,λi x d e=>k.2 i x d (c.2 i x d e)⟩
theorem gP{w:World}{i:Ending->World->Prop}(p:Nat)(b:World)(v:Value)(e d:Int)(a:Act)(o:b.heap[w.heap.size]? =W (J #[v] 101 (0,0)))(q:b.heap[w.heap.size+1]? =W (J #[V I e] 3 (0,0)))(z:∃x l m,v=Y x l m)
(u:b.heap[w.heap.size+1+1]? =W (J #[V I d] 24 (0,0)))(D:w.heap.size+3<=p)
(r:b.heap[p+2]? =W (.deferred (W [])))(g:a.tmps[2]? =W (Z (W ⟨w.heap.size,0,O⟩)))(k:a.tmps[3]? =W (Z (W ⟨w.heap.size+1,0,O⟩)))(j:a.tmps[4]? =W (Z (W ⟨w.heap.size+1+1,0,O⟩)))(f:a.defers=[{ target:=.collected (p+2),args:=#[] }])
(y:∀n,Far (·=p+2) b n->i (ρ (.tuple #[v,V I e,V I d])) n):
 bodyPostM Fence.wide 5 π f52 i .ret a b:=by
 obtain⟨E,C⟩:=a;simp only at f g k j;subst f;refine⟨by simp,.inl ⟨_,_,rfl,run_takeDeferred r,?_⟩⟩;have c:=aI b (p+2) (.deferred O);have A:=zF (c.heap o (by omega)) 0 rfl;have s:=zF (c.heap q (by omega)) 0 rfl;have t:=zF (c.heap u (by omega)) 0 rfl;refine⟨.tuple #[v,V I e,V I d],?_,y _ c⟩;obtain⟨x,l,m,rfl⟩:=z;simp[results,results52,go_sem,g,k,j,A,s,t]
theorem fj{w:World}{g:Ending->World->Prop}(b:World)(v:Value)(d c:Int)(a:Act)(m:b.heap[w.heap.size]? =W (J #[v] 101 (0,0)))(n:b.heap[w.heap.size+1]? =W (J #[V I d] 3 (0,0)))(s:∃x l k,v=Y x l k)
(q:b.heap[w.heap.size+1+1]? =W (J #[V I c] 24 (0,0)))
(f:a.tmps[2]? =W (Z (W ⟨w.heap.size,0,O⟩)))(j:a.tmps[3]? =W (Z (W ⟨w.heap.size+1,0,O⟩)))(i:a.tmps[4]? =W (Z (W ⟨w.heap.size+1+1,0,O⟩)))(e:a.defers=[])
(r:g (ρ (.tuple #[v,V I d,V I c])) b):
 bodyPostM Fence.wide 5 π f52 g .ret a b:=by
 obtain⟨y,u⟩:=a;simp only at e f j i;subst e;have t:=zF m 0 rfl;have o:=zF n 0 rfl;have p:=zF q 0 rfl;refine⟨.tuple #[v,V I d,V I c],?_,r⟩;obtain⟨x,l,k,rfl⟩:=s;simp[results,results52,go_sem,f,j,i,t,o,p]
theorem cu{w a:World}(d c b u0 u1 u2:Value)(g:a.heap[w.heap.size]? =W (J #[u0] 101 (0,0)))(f:a.heap[w.heap.size+1]? =W (J #[u1] 3 (0,0)))(e:a.heap[w.heap.size+1+1]? =W (J #[u2] 24 (0,0))):
 (((a.setCell ⟨w.heap.size,0,O⟩ d).setCell ⟨w.heap.size+1,0,O⟩ c).setCell ⟨w.heap.size+1+1,0,O⟩ b).heap[w.heap.size]? =W (J #[d] 101 (0,0))/\
 (((a.setCell ⟨w.heap.size,0,O⟩ d).setCell ⟨w.heap.size+1,0,O⟩ c).setCell ⟨w.heap.size+1+1,0,O⟩ b).heap[w.heap.size+1]? =W (J #[c] 3 (0,0))/\
 (((a.setCell ⟨w.heap.size,0,O⟩ d).setCell ⟨w.heap.size+1,0,O⟩ c).setCell ⟨w.heap.size+1+1,0,O⟩ b).heap[w.heap.size+1+1]? =W (J #[b] 24 (0,0)):=by
 refine⟨?_,?_,?_⟩
 ·exact(Below.heap_setCell _ _ _ _ (by show w.heap.size≠w.heap.size+1+1;omega)).trans ((Below.heap_setCell _ _ _ _ (by show w.heap.size≠w.heap.size+1;omega)).trans (ai g 0 _))
 ·exact(Below.heap_setCell _ _ _ _ (by show w.heap.size+1≠w.heap.size+1+1;omega)).trans (ai ((Below.heap_setCell _ _ _ _ (by show w.heap.size+1≠w.heap.size;omega)).trans f) 0 _)
 ·exact ai ((Below.heap_setCell _ _ _ _ (by show w.heap.size+1+1≠w.heap.size+1;omega)).trans ((Below.heap_setCell _ _ _ _ (by show w.heap.size+1+1≠w.heap.size;omega)).trans e)) 0 _
theorem wQ:(prog.info? 140).map (λi=>(i.zero,i.size,i.bytes))=W (W (γ #[V I 0,V I 0,U ⟨#[]⟩]),3,32):=by kernel_rfl
def Ao(s:ByteArray)(w:World)(e:Ending)(w':World):Prop:=
 (∃v,e=ρ (.tuple #[v,V I (Ln.split s.data.toList).2.1,V I (Ln.split s.data.toList).2.2])/\AC w.heap.size v (Ln.split s.data.toList).1 w')/\Below w.heap.size w w'
end
section
attribute [local go_sem] ak
attribute [local go_sem] Oper.semAt_some
def SA(s:ByteArray)(w:World)(p:Nat)(t:Nat)(a:Act)(c:World):Prop:=
 SI s w p t c/\∃b,c.heap[b]? =W (J #[U (zr s t)] 134 (0,0))/\p+4<=b/\a={ tmps:=#[Value.string s,undef,Value.pointer (W { block:=w.heap.size,off:=0 }),Value.pointer (W { block:=w.heap.size+1,off:=0 }),Value.pointer (W { block:=w.heap.size+1+1,off:=0 }),
  Value.pointer (W { block:=p,off:=0 }),V I ((t:Int)+1),Z (W ⟨b,0,O⟩),undef,undef,undef,Value.bool false,Value.string s,Value.int IntKind.i64 ↑s.size,Value.bool false,Value.bool false,Value.string s,Value.bool true,Value.bool false,Value.string s,φ (.func 99) #[] #[Z (W ⟨p+1,0,O⟩)],V I ((t:Int)+1),γ #[U (zr s t)],undef,undef,undef,undef,undef,undef,undef,undef,undef,undef,undef,undef,undef,undef,undef,undef,undef,undef,undef,undef],defers:=[] }
theorem SA.far{s:ByteArray}{w:World}{p t q:Nat}{a:Act}{c d:World}(g:SA s w p t a c)(b:Far (·=q) c d)(e:w.heap.size+3<=p)(f:p < q)(n:q < p+4):SA s w p t a d:=by
 obtain⟨l,j,i,m,k⟩:=g;exact⟨l.far b e f n,j,b.heap i (by omega),m,k⟩
theorem xb(a:World):(Go.method 653 211 (γ #[]) "sigillary/lines.why").run π a=.ok (368,γ #[]) a:=by kernel_rfl
theorem xa(a:World):(Go.method 653 212 (γ #[]) "sigillary/lines.why").run π a=.ok (369,γ #[]) a:=by kernel_rfl
theorem uc(args:Array Value)(w:World):(callFunc 368 args).run π w=.ok (.enter 368 args) w:=by kernel_rfl
theorem ub(args:Array Value)(w:World):(callFunc 369 args).run π w=.ok (.enter 369 args) w:=by kernel_rfl
theorem ta(w:World):Calls π 368 #[γ #[]] w λe w'=>e=ρ (V I 80)/\Below w.heap.size w w':=by
 go_enter func368,ntmps368
 go_wp2
 go_ret
 exact⟨rfl,(ζ _ _).alloc (η _) _⟩
theorem tO(w:World):Calls π 369 #[γ #[]] w λe w'=>e=ρ (V I 81)/\Below w.heap.size w w':=by
 go_enter func369,ntmps369
 go_wp2
 go_ret
 exact⟨rfl,(ζ _ _).alloc (η _) _⟩
theorem uM(a:List Ln.B)(t:Nat)(b:Ln.B)(c:a[t]? =W b)(j:∀b∈a.take t,Ln.trouble b=0)(f:Int)(g:Ln.trouble b=f)(l:f≠0):Ln.bad 1 a=((t:Int)+1,f):=by
 have d:t < a.length:=by
  by_cases k:t < a.length
  ·exact k
  ·rw[List.getElem?_eq_none (by omega)]at c;simp at c
 have e:a=a.take t++b::a.drop (t+1):=by
  have i:a.drop t=b::a.drop (t+1):=by
   rw[zW d];congr 1
   rw[zE d]at c;exact Option.some.inj c
  rw[<-i,List.take_append_drop]
 rw[e,Ln.iG 1 _ _ j,Ln.bad,if_neg (by rw[g];exact l),List.length_take_of_le (Nat.le_of_lt d),g];simp only[Prod.mk.injEq,and_true];omega
theorem tR(a:List Ln.B)(t:Nat)(b:Ln.B)(c:a.take (t+1)=a.take t++[b])(d:(a.take t).length=t):Ln.lns 1 (a.take (t+1))=Ln.lns 1 (a.take t)++Ln.lineL ((t:Int)+1) b:=by
 rw[c,Ln.ic,d,Ln.lns,Ln.lns,List.append_nil];congr 2
 omega
theorem rh:∀(n:Int) (a:List Ln.B),(Ln.lns n a).length<=a.length
 |_,[]=>η _
 |n,r::a=>by
  have:=rh (n+1) a;unfold Ln.lns Ln.lineL;split<;>simp<;>omega
theorem jJ(a:ByteArray):(yT a=.nilIface/\Ln.trouble a.data.toList=0)\/(yT a=.iface 211 (γ #[])/\Ln.trouble a.data.toList=80)\/(yT a=.iface 212 (γ #[])/\Ln.trouble a.data.toList=81):=by
 unfold yT Ln.trouble;cases Ln.plainB a.data.toList with
 |false=>exact .inr (.inl ⟨rfl,rfl⟩)
 |true=>
  cases Ln.markB a.data.toList with
  |false=>exact .inl ⟨rfl,rfl⟩
  |true=>exact .inr (.inr ⟨rfl,rfl⟩)
theorem aW{w:World}{base base':Nat}{e:TypeId}{size:Nat}{v:Value}{n:Nat}{xs:List Value}(a:w.ownsRow base e size v n xs)(d:base'<=base):w.ownsRow base' e size v n xs:=by
 refine⟨a.1,?_⟩;rcases a.2 with a|⟨g,cap,b,rfl,c,rest⟩
 ·exact .inl a
 ·exact .inr ⟨g,cap,b,rfl,by omega,rest⟩
theorem p7(s:ByteArray)(e2:s.size<=1000000)(w:World)(d6:Glob w):Calls π 52 #[U s] w (Ao s w):=by
 obtain⟨gc,a9,ga,g4,gl⟩:=info_parts wQ;have df:=zD d6;clear d6;refine callsIn_wide.1 (callsIn_of_wp_marks (n:=5) func52 rfl trivial (wpIn_wide.2 ?_));simp only[ntmps52,List.size_toArray,zO,List.length_nil,Nat.reduceAdd,Nat.reduceSub,Array.replicate_succ,Array.replicate_zero,List.push_toArray,List.append_toArray,List.nil_append,List.cons_append];have fG:Below w.heap.size w (((w.alloc (J #[Y O 0 0] 101)).alloc (J #[V I 0] 3)).alloc (J #[V I 0] 24)):=(((ζ _ _).alloc (η _) _).alloc (by simp) _).alloc (by simp;omega) _;by_cases hn:(8000:Int) < (s.size:Int)
 ·have u:Ln.split s.data.toList=([],0,20):=by unfold Ln.split;rw[if_pos (by rw[ap];omega)]
  go_wp2_with fail
  refine fj (w:=w) _ (Y O 0 0) 0 20 _ (aa _ (aa _ (ah _ _ _ rfl))) (aa _ (ah _ _ _ (by simp))) ⟨_,_,_,rfl⟩ (ah _ _ _ (by simp)) rfl rfl rfl rfl ?_;refine⟨⟨_,by rw[u],?_⟩,(((ζ _ _).alloc (η _) _).alloc (by simp) _).alloc (by simp;omega) _⟩;rw[u];exact World.ownsRow_nil _ _ _ _
 ·go_wp2_with fail
  refine(bt s e2 _ (df.out.step fG)).mono ?_;rintro e a4 ⟨rfl,R⟩;have ck:a4.heap[w.heap.size]? =W (J #[Y O 0 0] 101 (0,0)):=(R.block _ (by simp;omega)).trans (aa _ (aa _ (ah _ _ _ rfl)));have co:a4.heap[w.heap.size+1]? =W (J #[V I 0] 3 (0,0)):=(R.block _ (by simp)).trans (aa _ (ah _ _ _ (by simp)));have bR:a4.heap[w.heap.size+1+1]? =W (J #[V I 0] 24 (0,0)):=(R.block _ (by simp)).trans (ah _ _ _ (by simp));have e9:Below w.heap.size w a4:=fG.trans (R.mono (by simp;omega));have gx:w.heap.size+3<=a4.heap.size:=by have:=lt_of_heap bR;omega
  have bb:=zF ck 0 rfl;have cl:=zF co 0 rfl;have bw:=zF bR 0 rfl;have b9:=ag ck 0;have cm:=ag co 0;have ct:=ag bR 0;obtain⟨d1,bn,al,c0⟩:=zx4 ck co bR e9;clear R ck co bR e9;obtain⟨f8,ca⟩:∃c5,Ln.right s.data.toList=c5:=⟨_,rfl⟩;rw[ca];cases f8 with
  |false=>
   have u:Ln.split s.data.toList=([],0,40):=by unfold Ln.split;rw[if_neg (by rw[ap];omega),if_pos ca]
   go_wp2_with fail
   obtain⟨ao,a1,an⟩:=cu (Y O 0 0) (V I 0) (V I 40) _ _ _ d1.out bn.out al.out;refine fj (w:=w) _ (Y O 0 0) 0 40 _ ao a1 ⟨_,_,_,rfl⟩ an rfl rfl rfl rfl ?_;refine⟨⟨_,by rw[u],?_⟩,((c0.out.setCell (η _) _).setCell (Nat.le_succ _) _).setCell (by show w.heap.size<=w.heap.size+1+1;omega) _⟩;rw[u];exact World.ownsRow_nil _ _ _ _
  |true=>
   obtain⟨p,bk⟩:∃p,a4.heap.size=p:=⟨_,rfl⟩;clear bb cl bw b9 cm ct
   go_wp2_with fail
   refine(tn s _).mono ?_;rintro e be ⟨rfl,ad⟩;have d5:(a4.alloc (Obj.cells #[Value.slice O 0 0] 101)).heap.size=p+1:=by simp[bk]
   rw[d5];have fR:be.heap.size=p+2:=by rw[ad];simp[bk]
   have b6:be.heap[p+1]? =W (J #[U s] 9 (0,0)):=by rw[ad];exact ah _ _ _ (by simp[bk])
   have f0:be.heap[p]? =W (J #[Y O 0 0] 101 (0,0)):=by rw[ad];exact aa _ (ah _ _ _ bk.symm)
   have R:Below w.heap.size w be:=by rw[ad];exact(c0.out.alloc c0.out.size _).alloc (by simp;omega) _
   have e0:SI s w p 0 be:=by
    refine⟨⟨_,f0,World.ownsRow_nil _ _ _ _⟩,?_,?_,?_,λr bm=>absurd bm (by simp),R⟩
    ·rw[ad];exact aa _ (aa _ d1.out)
    ·rw[ad];exact aa _ (aa _ bn.out)
    ·rw[ad];exact aa _ (aa _ al.out)
   have fr:=df.out.step R;have S:w.heap.size+3<=p:=by omega
   obtain⟨g7,x,g8,f1,hl⟩:=zx5 e0 fR b6 fr bk;have hg:=df.out.1;clear ad d5 bk gx fR b6 f0 R e0 fr d1 bn al c0
   go_wp2_with fail
   obtain⟨m,gd⟩:=f1.out.2.2.1;refine wpIn_wide.1 (oA (n:=5) (X:=true) (gf:=99) (lb:=#[Z (W ⟨p+1,0,O⟩)]) rfl (λargs wx=>ui args wx)
    (qs s e2 (p+1) be g8.out (by omega) m gd (by have:=f1.out.1;omega)) (λ_ _ _ _=>trivial) (λd a2 b=>b.mono (λk _ e=>by have:=x.out;omega)) (λf9 B gb D gk b f=>b.fars gk f (by have:=x.out;omega) (by have:=x.out;omega)) (λ_=>rfl)
    (SI s w p) (λcb d=>cb=.ret/\SX s w d) (λt d a2 b c=>b.far c S (by omega) (by omega)) (λcb d a2 b c=>⟨b.1,b.2.far c S (by omega)⟩) (λt d a2 b c=>b.far (q:=p+3) (c.mono (λk _ e=>by have:=x.out;omega)) S (by omega) (by omega)) (λcb d a2 b c=>⟨b.1,b.2.far (p:=p) (q:=p+3) (c.mono (λk _ e=>by have:=x.out;omega)) S (by omega)⟩) (λb=>by cases b) g7.out
    (SA s w p) (λt a d a2 b c=>b.far (q:=p+3) (c.mono (λk _ e=>by have:=x.out;omega)) S (by omega) (by omega)) (λf9 B gb b k=>b.trans k) ?assign ?body ?done ?stop)
   case assign=>
    intro t d K c1 ei hI N
    gi_wp2
    exact N _ _ ⟨hI.far (q:=p+3) ((ξ (·=p+3) d).alloc _) S (by omega) (by omega),d.heap.size,af _ _,by have:=x.out;omega,rfl⟩ ((ξ _ d).alloc _) (.of_far ((ξ xO d).alloc _) (λe=>e) (λe=>e))
   case body=>
    rintro t a d c1 ei ⟨⟨⟨v,b3,a3⟩,y,C,z,a5,T⟩,g0,cv,hm,rfl⟩;rw[x.out]at ei ⊢;obtain⟨r,bm⟩:∃r,zr s t=r:=⟨_,rfl⟩;have av:(Ln.rows s.data.toList)[t]? =W r.data.toList:=by
     rw[<-bm];unfold zr;rw[zY,zE c1];rfl
    have fz:r.size<=1000000:=by
     have b4:=Ln.bz s.data.toList _ (zL av);rw[ap,ap]at b4;omega
    rw[bm]at cv ⊢;have ft:(Ln.rows s.data.toList).take (t+1)=(Ln.rows s.data.toList).take t++[r.data.toList]:=by
     rw[zG,av];rfl
    have fv:((Ln.rows s.data.toList).take t).length=t:=List.length_take_of_le (Nat.le_of_lt c1);have bb:=zF cv 0 rfl;obtain⟨d2,fs,es,hs,bn,al⟩:=zx6 ft fv av bm b3 a3;obtain⟨E,F,G,ds,l,d3⟩:=zx6 y C z a5 T cv;clear b3 a3 y C z a5 T cv ft fv av bm
    gi_wp2_with fail
    refine⟨trivial,(CallsIn.inRound _ (callsIn_wide.2 (lK r fz d))).mono ?_⟩;rintro e b5 ⟨rfl,ab⟩;have dc:b5.heap[g0]? =W (J #[U r] 134 (0,0)):=(ab.block _ (lt_of_heap d3.out)).trans d3.out;have bw:=zF dc 0 rfl;have eg:Far xO d b5:=.of_below ab xO;obtain⟨db,hq⟩:=zx2 eg dc;clear bb ab eg dc;rcases jJ r with ⟨A,b2⟩|⟨A,b2⟩|⟨A,b2⟩
    ·rw[A]
     gi_wp2_with fail
     refine⟨trivial,(CallsIn.inRound _ (callsIn_wide.2 (tS r fz _ b5))).mono ?_⟩;rintro e o ⟨⟨n,i,H,rfl,d4⟩,ac⟩;have f:Far xO d o:=db.out.below ac;obtain⟨e7,ba⟩:=zx2 d4 f;have er:∀c4∈(Ln.rows s.data.toList).take (t+1),Ln.trouble c4=0:=by
      rw[d2.out];intro c4 f3;rcases List.mem_append.1 f3 with b|b
      ·exact ds.out c4 b
      ·rw[List.mem_singleton.1 b];exact b2
     have e3:=tR _ t r.data.toList d2.out fs.out;obtain⟨e6,dp⟩:=zx2 er e3;have fl:=f.heap bn.out (λe=>e);have a0:=aw al.out f (λ_ _ _ e=>e);have f2:=f.heap E.out (λe=>e);have ex:=f.heap F.out (λe=>e);have en:=f.heap G.out (λe=>e);have e8:=l.out.trans (f.to_below l.out.size (λ_ _ e=>e));have hf:=f.size;obtain⟨ch,f4,ho,hh,hc,hk⟩:=zx6 fl a0 f2 ex en e8;clear d4 f ac er e3 fl a0 f2 ex en e8 A;obtain⟨ge,cc⟩:∃c5,Ln.says r.data.toList=c5:=⟨_,rfl⟩;rw[cc];cases ge with
     |false=>
      gi_wp2_with fail
      have c:Far xO d (o.alloc (Obj.cells #[Value.int IntKind.i64 n,Value.int IntKind.i64 i,Value.string H] 140)):=ba.out.alloc _;have b0:Ln.lns 1 ((Ln.rows s.data.toList).take (t+1))=Ln.lns 1 ((Ln.rows s.data.toList).take t):=by
       rw[dp.out,Ln.lineL,cc,if_neg (by decide),List.append_nil]
      exact⟨⟨⟨v,c.heap bn.out (λe=>e),by rw[b0];exact aw al.out c (λ_ _ _ e=>e)⟩,c.heap E.out (λe=>e),c.heap F.out (λe=>e),c.heap G.out (λe=>e),e6.out,l.out.trans (c.to_below l.out.size (λ_ _ e=>e))⟩,c.mono (λ_ _ e=>e.elim),.of_far c (λe=>e) (λe=>e)⟩
     |true=>
      obtain⟨k,cf⟩:∃k,(Ln.lns 1 ((Ln.rows s.data.toList).take t)).length=k:=⟨_,rfl⟩;have hj:k<=t:=by rw[<-cf];have:=rh 1 ((Ln.rows s.data.toList).take t);rw[fs.out]at this;exact this
      have hb:t<=1000000:=by have:=Ln.dD s.data.toList;rw[ap]at this;omega
      have a0:=f4.out;unfold AC at a0;rw[cf]at a0;have b0:Ln.lns 1 ((Ln.rows s.data.toList).take (t+1))=Ln.lns 1 ((Ln.rows s.data.toList).take t)++[⟨n,i,H.data.toList⟩]:=by
       rw[dp.out,Ln.lineL,cc,if_pos rfl,e7.out]
      have fn:ye (Ln.lns 1 ((Ln.rows s.data.toList).take (t+1)))=ye (Ln.lns 1 ((Ln.rows s.data.toList).take t))++[V I n,V I i,U H]:=by
       rw[b0,eO];rfl
      have e1:(Ln.lns 1 ((Ln.rows s.data.toList).take (t+1))).length=k+1:=by rw[b0,zP,cf];rfl
      have ht:=zF ch.out 0 rfl;have hd:=ag ch.out 0;have ha:=lt_of_heap ch.out;obtain⟨g2,gg⟩:=zx2 fn e1;have f5:k+1<=maxLen:=by unfold maxLen;omega
      have g6:(k+1) * 32<=140737488355328:=by omega
      have f6:∀(j:Nat) (dn:Value),[Value.int I n,V I i,U H][j]? =W dn->((o.alloc (Obj.cells #[Value.int IntKind.i64 n,Value.int IntKind.i64 i,Value.string H] 140)).alloc (Obj.cells #[Value.int IntKind.i64 n,Value.int IntKind.i64 i,Value.string H] 140)).cell? ((⟨o.heap.size+1,0,O⟩:Addr).add j)=W dn:=by
       intro j dn f7;have gr:(⟨o.heap.size+1,0,O⟩:Addr).add j=⟨o.heap.size+1,j,O⟩:=by unfold Addr.add;split<;>simp_all
       rw[gr,ae (ah _ _ (o.heap.size+1) (by simp)) j]
       simpa using f7
      have b6:p+4<=((o.alloc (Obj.cells #[Value.int IntKind.i64 n,Value.int IntKind.i64 i,Value.string H] 140)).alloc (Obj.cells #[Value.int IntKind.i64 n,Value.int IntKind.i64 i,Value.string H] 140)).heap.size:=by simp;omega
      clear b0 fn e1 cf dp e7 cc
      gi_wp2_with (gi_at_builtin;refine wpListIn_append_own _ rfl (.tmp 38) (.tmp 40) 101 rfl (p+4) 140 gc _ 3 32 underlying101 a9 ga g4 gl rfl (by decide) v k _ rfl ((a0.alloc _).alloc _) ⟨o.heap.size+1,0,O⟩ 1 1 [V I n,V I i,U H] rfl rfl f6 (by simp[Value.oneCell']) f5 g6 b6 ?_;intro hp w5 dv e5 _;obtain⟨g,cap,rfl,hi,hr⟩:=aA dv;have av:=a0.lt;have e4:Far (λk=>p+4<=k) o w5:=(((ξ _ o).alloc _).alloc _).grown e5 (λk e _=>(av k e).1);have ab:=e4.heap ch.out (by omega);have hv:w5.cell? ⟨p,0,O⟩=W v:=ae ab 0;have hu:w5.frozen? ⟨p,0,O⟩=false:=ag ab 0;have g1:=zD ab;have g5:=zD dv;clear ab dv e5 av)
      have eq:Far (λk=>k=p) w5 (w5.setCell ⟨p,0,O⟩ (Y (W ⟨g,0,O⟩) (k+1) cap)):=(ξ (λk=>k=p) w5).setCell (p:=⟨p,0,O⟩) (λ_=>rfl) _;have a6:Far (λk=>k=p\/p+4<=k) d (w5.setCell ⟨p,0,O⟩ (Y (W ⟨g,0,O⟩) (k+1) cap)):=((ba.out.mono (λ_ _ e=>e.elim)).trans (e4.mono (λ_ _ e=>.inr e))).trans (eq.mono (λ_ _ e=>.inl e));refine⟨⟨⟨Y (W ⟨g,0,O⟩) (k+1) cap,ai g1.out 0 _,?_⟩,a6.heap E.out (by omega),a6.heap F.out (by omega),a6.heap G.out (by omega),e6.out,l.out.trans (a6.to_below l.out.size (by intro i b4 c9;omega))⟩,a6.mono (by intro k _ b;omega),.of_far a6 (by omega) (by omega)⟩;unfold AC;rw[g2.out,gg.out];exact aw g5.out eq (by intro k b4 _ c9;omega)
    ·rw[A]
     have b1:Ln.bad 1 (Ln.rows s.data.toList)=((t:Int)+1,80):=uM _ t r.data.toList es.out ds.out 80 b2 (by decide);have da:=zD b1;clear b1
     gi_wp2_with fail
     refine⟨λ_ _=>trivial,?_⟩;rw[xb];simp only[Result.andThen];rw[uc]
     gi_wp2_with fail
     refine(CallsIn.inRound _ (callsIn_wide.2 (ta b5))).mono ?_;rintro e o ⟨rfl,ac⟩;have f:Far xO d o:=db.out.below ac;have L:=f.heap E.out (λe=>e);have M:=f.heap F.out (λe=>e);have P:=f.heap G.out (λe=>e);have bb:=zF L 0 rfl;have cl:=zF M 0 rfl;have bw:=zF P 0 rfl;have b9:=ag L 0;have cm:=ag M 0;have ct:=ag P 0;obtain⟨c2,d0,dr,ba⟩:=zx4 L M P f;clear L M P f ac
     gi_wp2_with fail
     obtain⟨ao,a1,an⟩:=cu (Y O 0 0) (V I ((t:Int)+1)) (V I 80) _ _ _ c2.out d0.out dr.out;have c:=((ba.out.mono (D':=λk=>k=w.heap.size\/k=w.heap.size+1\/k=w.heap.size+1+1) (λ_ _ e=>e.elim)).setCell (p:=⟨w.heap.size,0,O⟩) (λ_=>.inl rfl) (Y O 0 0)).setCell (p:=⟨w.heap.size+1,0,O⟩) (λ_=>.inr (.inl rfl)) (V I ((t:Int)+1)) |>.setCell (p:=⟨w.heap.size+1+1,0,O⟩) (λ_=>.inr (.inr rfl)) (V I 80);refine⟨⟨rfl,?_⟩,c.mono (by intro k _ b;omega),.of_far c (by omega) (by omega)⟩;unfold SX;rw[da.out];exact⟨(λe=>by cases e),ao,a1,an,l.out.trans (c.to_below l.out.size (by intro i a9 b;omega))⟩
    ·rw[A]
     have b1:Ln.bad 1 (Ln.rows s.data.toList)=((t:Int)+1,81):=uM _ t r.data.toList es.out ds.out 81 b2 (by decide);have da:=zD b1;clear b1
     gi_wp2_with fail
     refine⟨λ_ _=>trivial,?_⟩;rw[xa];simp only[Result.andThen];rw[ub]
     gi_wp2_with fail
     refine(CallsIn.inRound _ (callsIn_wide.2 (tO b5))).mono ?_;rintro e o ⟨rfl,ac⟩;have f:Far xO d o:=db.out.below ac;have L:=f.heap E.out (λe=>e);have M:=f.heap F.out (λe=>e);have P:=f.heap G.out (λe=>e);have bb:=zF L 0 rfl;have cl:=zF M 0 rfl;have bw:=zF P 0 rfl;have b9:=ag L 0;have cm:=ag M 0;have ct:=ag P 0;obtain⟨c2,d0,dr,ba⟩:=zx4 L M P f;clear L M P f ac
     gi_wp2_with fail
     obtain⟨ao,a1,an⟩:=cu (Y O 0 0) (V I ((t:Int)+1)) (V I 81) _ _ _ c2.out d0.out dr.out;have c:=((ba.out.mono (D':=λk=>k=w.heap.size\/k=w.heap.size+1\/k=w.heap.size+1+1) (λ_ _ e=>e.elim)).setCell (p:=⟨w.heap.size,0,O⟩) (λ_=>.inl rfl) (Y O 0 0)).setCell (p:=⟨w.heap.size+1,0,O⟩) (λ_=>.inr (.inl rfl)) (V I ((t:Int)+1)) |>.setCell (p:=⟨w.heap.size+1+1,0,O⟩) (λ_=>.inr (.inr rfl)) (V I 81);refine⟨⟨rfl,?_⟩,c.mono (by intro k _ b;omega),.of_far c (by omega) (by omega)⟩;unfold SX;rw[da.out];exact⟨(λe=>by cases e),ao,a1,an,l.out.trans (c.to_below l.out.size (by intro i a9 b;omega))⟩
   case done=>
    rintro d ⟨⟨v,b3,a3⟩,y,C,z,a5,T⟩ _ N;rw[x.out]at N ⊢;rw[List.take_length]at a3 a5;have u:=Ln.nt s.data.toList ((Ln.d9 s.data.toList).2 ⟨by rw[ap];omega,ca,a5⟩);obtain⟨bs,bD,cap,rfl⟩:∃bs bD cap,v=Y bs bD cap:=by
     rcases a3.2 with ⟨A,_⟩|⟨g,cap,he,A,_⟩
     ·exact⟨_,_,_,A⟩
     ·exact⟨_,_,_,A⟩
    have bb:=zF y 0 rfl;have cl:=zF C 0 rfl;have bw:=zF z 0 rfl;have c3:=zF b3 0 rfl;have b9:=ag y 0;have cm:=ag C 0;have ct:=ag z 0;obtain⟨al,E,F,G,l,c6⟩:=zx6 a3 y C z T N;have bx:=zD u;clear b3 a3 y C z a5 T N u
    go_wp2_with fail
    obtain⟨ao,a1,an⟩:=cu (Y bs bD cap) (V I 0) (V I 0) _ _ _ E.out F.out G.out;have c:Far (λk=>k=w.heap.size\/k=w.heap.size+1\/k=w.heap.size+1+1) d (((d.setCell ⟨w.heap.size,0,O⟩ (Y bs bD cap)).setCell ⟨w.heap.size+1,0,O⟩ (V I 0)).setCell ⟨w.heap.size+1+1,0,O⟩ (V I 0)):=
     (((ξ _ d).setCell (λ_=>.inl rfl) _).setCell (λ_=>.inr (.inl rfl)) _).setCell (λ_=>.inr (.inr rfl)) _
    refine gP p _ (Y bs bD cap) 0 0 _ ao a1 ⟨_,_,_,rfl⟩ an S (c.heap c6.out (by omega)) rfl rfl rfl rfl ?_;intro a2 b8;refine⟨⟨_,by rw[bx.out],?_⟩,((l.out.trans (c.to_below l.out.size (by intro i a9 b;omega)))).trans (b8.to_below (Nat.le_trans l.out.size c.size) (by intro i a9 b;omega))⟩;rw[bx.out];have b:=aw (aw al.out c (by intro k b4 c9 b;omega)) b8 (by intro k b4 c9 b;omega);exact aW b (by omega)
   case stop=>
    rintro cb d ⟨rfl,g3,y,C,z,T⟩ N;rw[x.out]at N ⊢;have u:Ln.split s.data.toList=([],Ln.bad 1 (Ln.rows s.data.toList)):=by
     unfold Ln.split;rw[if_neg (by rw[ap];omega),if_neg (by rw[ca];simp),if_neg g3]
    obtain⟨c6,E,F,G,l,bx⟩:=zx6 N y C z T u;clear y C z T N u;refine wpIn_wide.2 ?_
    go_wp2_with fail
    refine gP p d (Y O 0 0) _ _ _ E.out F.out ⟨_,_,_,rfl⟩ G.out S c6.out rfl rfl rfl rfl ?_;intro a2 b8;refine⟨⟨_,by rw[bx.out],?_⟩,l.out.trans (b8.to_below l.out.size (by intro i a9 b;omega))⟩;rw[bx.out];exact World.ownsRow_nil _ _ _ _
end
section
attribute [local go_sem] ak
attribute [local go_sem] Oper.semAt_some
theorem v6(n:Int)(a:World):(Instr.typeAssert (.iface 473 (γ #[V I n])) 469 473 true).run π a=.ok (.tuple #[γ #[V I n],β true]) a:=by kernel_rfl
theorem pq(args:Array Value)(w:World):(callFunc 318 args).run π w=.ok (.enter 318 args) w:=by kernel_rfl
def sgs(a:List (Int × Nat))(t:Nat):List Value:=(a.take t).flatMap λx=>Lib.runeCells x.1
theorem uW(a:List (Int × Nat))(t:Nat):(sgs a t).length<=4 * t:=by
 have:∀l:List (Int × Nat),(l.flatMap λx=>Lib.runeCells x.1).length<=4 * l.length:=by
  intro l;induction l with
  |nil=>simp
  |cons x l ih=>
   have:(Lib.runeCells x.1).length<=4:=by unfold Lib.runeCells;rw[List.length_map];exact Lib.encodeRuneZ_length_le x.1
   simp only[List.flatMap_cons,zP,zO];omega
 have b:=this (a.take t);have:=List.length_take_le t a;unfold sgs;omega
theorem te(a:List (Int × Nat))(t:Nat)(x:Int × Nat)(b:a[t]? =W x):sgs a (t+1)=sgs a t++Lib.runeCells x.1:=by
 unfold sgs;rw[zG,b,List.flatMap_append];simp
def RF(a p:Nat):NS:=λk=>k=p\/k=a\/k=a+1\/k=a+1+1\/p+5<=k
def RI(w:World)(p:Nat)(b:List (Int × Nat))(t:Nat)(c:NS)(a:World):Prop:=
 c=RF w.heap.size p/\t<=b.length/\a.heap[w.heap.size]? =W (J #[U ⟨#[]⟩] 9 (0,0))/\a.heap[w.heap.size+1]? =W (J #[V I 0] 3 (0,0))/\a.heap[w.heap.size+1+1]? =W (J #[V I 0] 24 (0,0))/\Bd (p+5) p (sgs b t) a/\Below w.heap.size w a
def RX(w:World)(p:Nat)(o:Value)(e:Int)(b:Code)(c:NS)(a:World):Prop:=
 c=RF w.heap.size p/\b=.ret/\a.heap[w.heap.size]? =W (J #[o] 9 (0,0))/\a.heap[w.heap.size+1]? =W (J #[V I e] 3 (0,0))/\a.heap[w.heap.size+1+1]? =W (J #[V I 0] 24 (0,0))/\Below w.heap.size w a
theorem RI.far{w:World}{p:Nat}{f:List (Int × Nat)}{t:Nat}{g D:NS}{c j:World}(u:RI w p f t g c)(b:Far D c j)(a:∀k,D k->w.heap.size<=k/\¬RF w.heap.size p k):RI w p f t g j:=by
 obtain⟨o,l,r,n,q,s,d⟩:=u;exact⟨o,l,b.heap r (λe=>(a _ e).2 (.inr (.inl rfl))),b.heap n (λe=>(a _ e).2 (.inr (.inr (.inl rfl)))),b.heap q (λe=>(a _ e).2 (.inr (.inr (.inr (.inl rfl))))),s.far b (λe=>(a _ e).2 (.inl rfl)) (λk m _ e=>(a _ e).2 (.inr (.inr (.inr (.inr m))))),d.trans (b.to_below d.size (λi v e=>by have:=(a _ e).1;omega))⟩
theorem RX.far{w:World}{p:Nat}{o:Value}{e:Int}{g:Code}{f D:NS}{c j:World}(s:RX w p o e g f c)(b:Far D c j)(a:∀k,D k->w.heap.size<=k/\¬RF w.heap.size p k):RX w p o e g f j:=by
 obtain⟨n,l,r,m,q,d⟩:=s;exact⟨n,l,b.heap r (λe=>(a _ e).2 (.inr (.inl rfl))),b.heap m (λe=>(a _ e).2 (.inr (.inr (.inl rfl)))),b.heap q (λe=>(a _ e).2 (.inr (.inr (.inr (.inl rfl))))),d.trans (b.to_below d.size (λi t e=>by have:=(a _ e).1;omega))⟩
theorem isq(q:UInt8)(b:q=34\/q=39):(∀a,(convert 5 21 (V .u8 (q.toNat:Int))).run π a=.ok (V .i32 (q.toNat:Int)) a)/\decide ((q.toNat:Int)∈([34,39]:List Int))=true:=by
 rcases b with rfl|rfl
 ·exact⟨λ_=>by kernel_rfl,by decide⟩
 ·exact⟨λ_=>by kernel_rfl,by decide⟩
theorem qz(q:UInt8)(a5:q=34\/q=39)(s:ByteArray)(hk:s.size<=100000)(en:Ln.right s.data.toList=true)(p:Nat)(ca:s.data.toList[p]? =W q)(M:Ln.right (s.data.toList.drop (p+1))=true)(n:Nat)(o r:Tp.B)(dp:Tp.unq q n (s.data.toList.drop (p+1))=W (o,r))(w:World)(ab:Glob w):
 Calls π 284 #[U s,V I (p:Int)] w λe w'=>e=ρ (.tuple #[xR o,V I ((s.size - r.length:Nat):Int),V I 0])/\Below w.heap.size w w':=by
 obtain⟨j,z,P,g0,gk,eq,a0,d5,ch⟩:=cd q a5 s n (p+1) o r M dp;have d6:s.size - r.length=z:=by
  have:=congrArg List.length eq;rw[zZ,ap]at this;omega
 rw[d6];have c4:p < s.size:=by rw[<-ap];exact(zM.1 ca).1
 have gx:∀f,(Instr.index 9 (U s) (V I (p:Int))).run π f=.ok (V .u8 (q.toNat:Int)) f:=by
  intro f;rw[vQ s (p:Int) p rfl c4 f];unfold Ln.nat
  rw[zY,ca];rfl
 obtain⟨f3,b3⟩:=isq q a5;have e3:IntKind.i64.wrap ((p:Int)+1)=((p+1:Nat):Int):=by rw[show (p:Int)+1=((p+1:Nat):Int)by omega];exact zU _ (by omega)
 have f8:¬(s.size:Int)<=(p:Int):=by omega
 have hs:j.length<=100000:=by omega
 obtain⟨ac,cb⟩:∃ac:ByteArray,(⟨o.toArray⟩:ByteArray)=ac:=⟨_,rfl⟩;have gb:∀f,Lib.IsBuilderF 38 5 0 0 [] f->True:=λ_ _=>trivial;obtain⟨av,b5⟩:∃av:Int,((p+1:Nat):Int)=av:=⟨_,rfl⟩;obtain⟨Q,d2⟩:∃Q:Int,(q.toNat:Int)=Q:=⟨_,rfl⟩;have bD:=λfl g5 f7 g1 f4=>mn q a5 s (by omega) j z (p+1) fl g5 f7 g1 f4 P;have df:=oI s Q av;rw[b5]at e3;simp only[b5,d2]at bD gx f3 b3;have bk:=λf g cap b=>cn Q [34,39] (W ⟨g,0,O⟩) g 0 2 cap rfl (by omega) f b;rw[b3]at bk;have be:=bt s (by omega);rw[en]at be;obtain⟨a1,fG,db,gr,fz,g8⟩:=zx6 ab bD df d5 a0 be;have gd:=zD bk;rw[show xR o=U ac by rw[<-cb];rfl];have g4:=zD cb;unfold rdV at db;clear ab bD df d5 a0 be bk dp ca M en P eq cb gb b5 d2 d6 b3 ch g0 gk c4 a5;refine callsIn_wide.1 (callsIn_of_wp_marks (n:=5) func284 rfl trivial (wpIn_wide.2 ?_));simp only[ntmps284,List.size_toArray,zO,List.length_nil,Nat.reduceAdd,Nat.reduceSub,Array.replicate_succ,Array.replicate_zero,List.push_toArray,List.append_toArray,List.nil_append,List.cons_append];have b6:Below w.heap.size w (((w.alloc (J #[U ⟨#[]⟩] 9)).alloc (J #[V I 0] 3)).alloc (J #[V I 0] 24)):=(((ζ _ _).alloc (η _) _).alloc (by simp) _).alloc (by simp;omega) _
 go_wp2_with fail
 refine(g8.out _ (a1.out.step b6)).mono ?_;rintro e G ⟨rfl,an⟩;have c0:G.heap[w.heap.size]? =W (J #[U ⟨#[]⟩] 9 (0,0)):=(an.block _ (by simp;omega)).trans (aa _ (aa _ (ah _ _ _ rfl)));have d0:G.heap[w.heap.size+1]? =W (J #[V I 0] 3 (0,0)):=(an.block _ (by simp)).trans (aa _ (ah _ _ _ (by simp)));have b4:G.heap[w.heap.size+1+1]? =W (J #[V I 0] 24 (0,0)):=(an.block _ (by simp)).trans (ah _ _ _ (by simp));have da:Below w.heap.size w G:=b6.trans (an.mono (by simp;omega));have gc:w.heap.size+3<=G.heap.size:=by have:=lt_of_heap b4;omega
 obtain⟨cc,er,es,a6⟩:=zx4 c0 d0 b4 da;clear an c0 d0 b4 da b6
 go_wp2_with fail
 refine(gd.out _ _ _ (fC _ _ _)).mono ?_;rintro e ht ⟨rfl,rfl⟩;obtain⟨a,d1⟩:∃a,G.heap.size+1=a:=⟨_,rfl⟩;have e0:=zD d1
 go_wp2_with fail
 refine(db.out _).mono ?_;rintro e L ⟨rfl,y⟩;have cf:((G.alloc (Obj.cells #[Value.int IntKind.i32 34,Value.int IntKind.i32 39] 21)).alloc (Obj.cells #[Value.pointer O,Value.slice O 0 0] 38)).heap.size=a+1:=by simp;omega
 rw[cf];have eg:L.heap.size=a+3:=by rw[y];simp;omega
 have d4:L.heap[a]? =W (J #[Z O,Y O 0 0] 38 (0,0)):=by rw[y];exact aa _ (aa _ (ah _ _ _ (by simp;omega)))
 have dn:L.heap[a+1]? =W (J #[U s,V .i32 Q] 466 (0,0)):=by rw[y];exact aa _ (ah _ _ _ (by simp;omega))
 have c6:L.heap[a+1+1]? =W (J #[V I av] 3 (0,0)):=by rw[y];exact ah _ _ _ (by simp;omega)
 have b8:Below w.heap.size w L:=by rw[y];have:=a6.out.size;exact(((a6.out.alloc a6.out.size _).alloc (by simp;omega) _).alloc (by simp;omega) _).alloc (by simp;omega) _
 have ds:=a1.out.step b8;have c1:RI w a j 0 (RF w.heap.size a) L:=by
  refine⟨rfl,z_ _,?_,?_,?_,⟨_,_,.inl rfl,d4,World.ownsRowF_nil _ _ _ _,by simp[Value.ownBlock]⟩,b8⟩
  ·rw[y];exact aa _ (aa _ (aa _ (aa _ cc.out)))
  ·rw[y];exact aa _ (aa _ (aa _ (aa _ er.out)))
  ·rw[y];exact aa _ (aa _ (aa _ (aa _ es.out)))
 have hd:w.heap.size+3<=a:=by omega
 obtain⟨g6,C,ge,f1,ex⟩:=zx5 c1 eg dn c6 ds;have hi:=a1.out.1;clear y cf gc eg d4 dn c6 b8 c1 ds cc er es a6 d1 e0
 go_wp2_with fail
 refine wpIn_wide.1 (aC (n:=5) (gf:=318) (lb:=#[Z (W ⟨a+1,0,O⟩),Z (W ⟨a+1+1,0,O⟩)]) rfl (λargs wx=>pq args wx)
  (fG.out (a+1) (a+1+1) (by omega) (by omega) (by omega) L ge.out f1.out ex.out) (λk e=>by have:=C.out;omega) (λk e=>by have:=C.out;have:=ex.out.1;omega) (λt v fs f b=>by obtain⟨⟨rfl,_⟩,_⟩:=b;rfl)
  (RI w a j) (RX w a (U ac) (z:Int)) (RF w.heap.size a) (λk b=>by have:=C.out;have:=a1.out.1;unfold RF at b;refine⟨?_,?_,?_,?_,λb=>b.elim⟩<;>omega) g6.out ?hI ?hIx (λ_ _ _ _=>trivial) (λ_ _ _ _=>trivial) ?round ?done ?stop)
 case hI=>
  intro t E f dv b b0;obtain rfl:E=_:=b.1;exact b.far b0 (λk e=>⟨by have:=C.out;rcases e.2 with b|b<;>omega,e.1⟩)
 case hIx=>
  intro t E f dv b b0;obtain rfl:E=_:=b.1;exact b.far b0 (λk e=>⟨by have:=C.out;rcases e.2 with b|b<;>omega,e.1⟩)
 case round=>
  rintro t E fs v f K hc e9 hI ⟨⟨rfl,rfl⟩,⟨hr,ho,b9⟩,hm,ba⟩ ab bR H;obtain rfl:E=_:=hI.1;have b1:=C.out;rw[b1]at e9;by_cases d3:t < j.length
  ·obtain⟨r,n,bn⟩:∃r n,j[t]? =W (r,n):=⟨_,_,zE d3⟩
   have g2:=gr.out _ (zL bn);rw[show Aq j z t=yD r (n:Int)by unfold Aq;rw[bn]];have f2:=we r (n:Int);have c3:=te j t _ bn;have ch:=uW j t;unfold yD;simp only at g2 c3;generalize (n:Int)=l at *
   gi_wp2
   refine H _ _ (ξ _ f) ?_;intro d u _ _;rw[b1]at u;have a2:=hI.far u (λk e=>⟨by omega,λb=>by unfold RF at b;omega⟩);have f0:=a2.far ((ξ xO d).alloc (J #[V .i32 r,V I l] 471)) (λk e=>e.elim);obtain⟨_,c5,S,ad,D,A,F⟩:=f0;have M:=xq (a+5) a _ r (by omega) (by omega) _ A (by omega) (by simp;have:=u.size;omega);rw[<-c3]at M;obtain⟨ft,f6,f5,e2,al⟩:=zx5 M S ad D F;clear hI a2 u S ad D A F M H b9 ba ab bR
   gi_wp2_with fail
   refine⟨trivial,(CallsIn.inRound _ (callsIn_wide.2 ft.out)).mono ?_⟩;rintro e c ⟨⟨m,rfl⟩,e8,N⟩;have fR:Far (RF w.heap.size a) d c:=(((ξ xO d).alloc (J #[V .i32 r,V I l] 471)).mono (λ_ _ e=>e.elim)).trans (N.mono (λk _ e=>by unfold RF;omega));have e6:RI w a j (t+1) (RF w.heap.size a) c:=⟨rfl,d3,N.heap f6.out (by omega),N.heap f5.out (by omega),N.heap e2.out (by omega),e8,al.out.trans (N.to_below al.out.size (λi dr e=>by omega))⟩;clear N
   gi_wp2_with fail
   exact⟨_,e6,fR,λk b=>⟨.inl b,λb=>b.elim⟩⟩
  ·have dc:t=j.length:=by have:=hI.2.1;omega
   subst dc;rw[show Aq j z j.length=Aj (z:Int)by unfold Aq;rw[List.getElem?_eq_none (η _)]];have f2:=v8 (z:Int);have dc:=v6 (z:Int);unfold Aj;generalize (z:Int)=l at *
   gi_wp2
   refine H _ _ (ξ _ f) ?_;intro d u T R;rw[b1]at u T R;have a2:=hI.far u (λk e=>⟨by omega,λb=>by unfold RF at b;omega⟩);have bb:=u.heap b9 (by omega);have bw:=u.heap ba (by omega);obtain⟨_,c5,S,ad,D,A,F⟩:=a2;have a0:sgs j j.length=Lib.byteCells o:=by unfold sgs;rw[List.take_length];exact fz.out
   rw[a0]at A;have bm:=af d (J #[V I l] 473);have ct:∀k x,d.heap[k]? =W x->(d.alloc (J #[V I l] 473)).drew.heap[k]? =W x:=λk x b=>aa _ b;have cm:Lib.IsBuilderF 38 5 a a (Lib.byteCells o) (d.alloc (J #[V I l] 473)).drew:=(A.far (((ξ xO d).alloc (J #[V I l] 473)).drew) (λe=>e) (λ_ _ _ e=>e)).is (by omega) (η _);have P:=Tryz.Builder_String_any_k a a o _ cm (by have:=lt_of_heap R;show a<=(d.alloc _).heap.size;simp;omega);rw[g4.out]at P;have ha:=zD P;have e5:=zF bm 0 rfl;have hj:(d.alloc (J #[V I l] 473)).drew.cell? ⟨d.heap.size,0,O⟩=W (V I l):=e5;have c2:∀c:World,Below a (d.alloc (J #[V I l] 473)).drew c->Lib.OthersKept 5 (W a) (d.alloc (J #[V I l] 473)).drew c->Far (RF w.heap.size a) d c/\c.heap[w.heap.size]? =W (J #[U ⟨#[]⟩] 9 (0,0))/\c.heap[w.heap.size+1]? =W (J #[V I 0] 3 (0,0))/\c.heap[w.heap.size+1+1]? =W (J #[V I 0] 24 (0,0))/\c.heap[d.heap.size]? =W (J #[V I l] 473 (0,0)):=by
    intro c X ck;have ok:∀k x,d.heap[k]? =W x->k≠a->(∀co fr,x≠J co 5 fr)->c.heap[k]? =W x:=λk x b bx e7=>ck k x (ct k x b) (λe=>bx (Option.some.inj e)) e7;refine⟨⟨X.os,X.tape.trans ?_,X.output,Nat.le_trans (by simp) X.size,?_⟩,ok _ _ S (by omega) (by simp),ok _ _ ad (by omega) (by simp),ok _ _ D (by omega) (by simp),ck _ _ bm (by have:=lt_of_heap R;simp;omega) (by simp)⟩
    ·rfl
    ·intro k bx g7
     unfold RF at g7;rcases Nat.lt_or_ge k a with b|b
     ·exact(X.block k b).trans (Below.heap_alloc _ _ _ bx)
     ·have:k=a+1\/k=a+1+1\/k=a+3\/k=a+3+1:=by omega
      obtain⟨hl,T⟩:=T;rcases this with rfl|rfl|rfl|rfl
      ·exact(ok _ _ bb (by omega) (by simp)).trans bb.symm
      ·exact(ok _ _ bw (by omega) (by simp)).trans bw.symm
      ·exact(ok _ _ R (by omega) (by simp)).trans R.symm
      ·exact(ok _ _ T (by omega) (by simp)).trans T.symm
   have gg:=zD c2;have ga:RowKit.Hid (w.heap.size < d.heap.size):=zD (lt_of_heap S);have al:=zD F;clear hI H b9 ba ab bR u bm ct cm P c2 S ad D A F bb bw R T
   gi_wp2_with fail
   gi_region_with (refine⟨trivial,(CallsIn.inRound _ (callsIn_wide.2 ha.out)).mono ?_⟩;rintro e c ⟨rfl,e1,c9,cl⟩;obtain⟨ei,a4,a9,a3,b2⟩:=gg.out c c9 cl;have hb:c.cell? ⟨d.heap.size,0,O⟩=W (V I l):=ae b2 0;have hh:(c.setCell ⟨w.heap.size,0,O⟩ (U ac)).cell? ⟨d.heap.size,0,O⟩=W (V I l):=ae ((Below.heap_setCell _ _ _ _ (by show d.heap.size≠w.heap.size;have:=ga.out;omega)).trans b2) 0;have hq:c.cell? ⟨w.heap.size,0,O⟩=W (U ⟨#[]⟩):=ae a4 0;have hn:c.cell? ⟨w.heap.size+1,0,O⟩=W (V I 0):=ae a9 0;have hg:c.cell? ⟨w.heap.size+1+1,0,O⟩=W (V I 0):=ae a3 0;have he:c.frozen? ⟨w.heap.size,0,O⟩=false:=ag a4 0;have f8:c.frozen? ⟨w.heap.size+1,0,O⟩=false:=ag a9 0;have hp:c.frozen? ⟨w.heap.size+1+1,0,O⟩=false:=ag a3 0;have bs:=zD ei;have g3:=zD a4;have f9:=zD a9;have fn:=zD a3;clear e1 c9 cl ei a4 a9 a3 b2)
   all_goals gi_wp2_with fail
   all_goals (
    have hf:=bs.out;refine⟨_,⟨rfl,rfl,(Below.heap_setCell _ _ _ _ (by show w.heap.size≠w.heap.size+1+1;omega)).trans ((Below.heap_setCell _ _ _ _ (by show w.heap.size≠w.heap.size+1;omega)).trans (ai g3.out 0 _)),(Below.heap_setCell _ _ _ _ (by show w.heap.size+1≠w.heap.size+1+1;omega)).trans (ai ((Below.heap_setCell _ _ _ _ (by show w.heap.size+1≠w.heap.size;omega)).trans f9.out) 0 _),ai ((Below.heap_setCell _ _ _ _ (by show w.heap.size+1+1≠w.heap.size+1;omega)).trans ((Below.heap_setCell _ _ _ _ (by show w.heap.size+1+1≠w.heap.size;omega)).trans fn.out)) 0 _,?_⟩,((bs.out.setCell (λ_=>.inr (.inl rfl)) _).setCell (λ_=>.inr (.inr (.inl rfl))) _).setCell (λ_=>.inr (.inr (.inr (.inl rfl)))) _,λk b=>⟨.inl b,λb=>b.elim⟩⟩;exact(((al.out.trans (bs.out.to_below al.out.size (λi dr e=>by unfold RF at e;omega))).setCell (η _) _).setCell (Nat.le_succ _) _).setCell (by show w.heap.size<=w.heap.size+1+1;omega) _)
 case done=>
  rintro E f ⟨_,c5,_⟩;omega
 case stop=>
  rintro co E f ⟨rfl,rfl,D,A,F,cv⟩ H bR;rw[C.out]at H ⊢;refine wpIn_wide.2 ?_
  go_wp2_with fail
  refine au (q:=a+3) rfl H ?_;intro dv ao;have gl:=zF (ao.heap D (by omega)) 0 rfl;have fv:=zF (ao.heap A (by omega)) 0 rfl;have e4:=zF (ao.heap F (by omega)) 0 rfl;exact⟨_,by simp[results,results284,go_sem,gl,fv,e4],rfl,cv.trans (ao.to_below cv.size (λi dr e=>by omega))⟩
end
theorem oC(q:UInt8)(bR:q=34\/q=39)(a:Nat)(s:ByteArray)(p d:Nat)(co:s.size<=100000)(a2:Ln.right s.data.toList=true)(a3:s.data.toList[p]? =W q)(P:Ln.right (s.data.toList.drop (p+1))=true)(n:Nat)(o k:Tp.B)(ab:Tp.unq q n (s.data.toList.drop (p+1))=W (o,k))
(X:(Tp.closed d k||k.head?==W 58)=true)(w:World)(a0:Glob w)(d4:10<=a)(u:yb w a s p d):
 Calls π 260 #[Z (W ⟨a,0,O⟩)] w (yh w a s (s.size - k.length) d ⟨2,o,p⟩):=by
 obtain⟨_,i,_,_,da,M,_,_,_⟩:=cd q bR s n (p+1) o k P ab;have b1:s.size - k.length=i:=by
  have:=congrArg List.length M;rw[zZ,ap]at this;omega
 have H:=qz q bR s co a2 p a3 P n o k ab;rw[b1]at H ⊢;have C:=bT a s i d i 0 (by omega) (by omega) (by omega);rw[M]at C;have bD:yC s i [58]=(k.head?==W 58):=by
  unfold yC;rw[<-M,List.head?_drop];cases s.data.toList[i]? with
  |none=>rfl
  |some c=>simp[List.contains_cons];rw[Bool.eq_iff_iff];simp
 have A:=λg v u c4=>cO a s i d i 0 (by omega) (by omega) (by omega) [58] g 1 rfl (by omega) v u c4;rw[bD]at A;obtain⟨T,bx⟩:∃T,Tp.closed d k=T:=⟨_,rfl⟩;rw[bx]at C X;obtain⟨ad,ba⟩:∃ad,(k.head?==W 58)=ad:=⟨_,rfl⟩;rw[ba]at A X;have a4:=lt_of_heap u;have F:yb (w.alloc (J #[V I 0,U ⟨#[]⟩,V I 0] 305)) a s p d:=aa _ u;have a6:(w.alloc (J #[V I 0,U ⟨#[]⟩,V I 0] 305)).heap[w.heap.size]? =W (J #[V I 0,U ⟨#[]⟩,V I 0] 305):=af w _;have df:Below w.heap.size w (w.alloc (J #[V I 0,U ⟨#[]⟩,V I 0] 305)):=(ζ _ w).alloc (η _) _;have be:∀v,Far xO w v->Glob v:=λv h=>a0.far h (λ_ _ e=>e);obtain⟨f,b4⟩:∃f:ByteArray,(⟨o.toArray⟩:ByteArray)=f:=⟨_,rfl⟩;have S:xR o=U f:=by rw[<-b4];rfl
 rw[S]at H;obtain⟨bs,a9,c2,cb,d0,cf⟩:=zx6 S H C A F u;obtain⟨c3,db⟩:=zx2 a6 be;have L:=zF F 0 rfl;have D:=zF F 1 rfl;obtain⟨l,b0⟩:∃l:Int,(i:Int)=l:=⟨_,rfl⟩;simp only[b0]at a9;clear u F a6 df H C A a0 be ab a2 a3 P bD bx ba M da b1 b4 S
 go_enter func260,ntmps260
 go_upto_region 1 with (fail)
 go_region_held3 (λw'=>w'.cell? ⟨a,0,O⟩=W (U s)/\w'.cell? ⟨a,1,O⟩=W (V I (p:Int))) (first|(with_reducible exact⟨L,D⟩)|exact⟨(World.cell?_of_block (r.block a (by simp;omega))).trans L,(World.cell?_of_block (r.block a (by simp;omega))).trans D⟩|go_keep) (first|(go_at_call 284;refine(a9.out _ (db.out _ (by first|exact((ξ xO w).alloc _).drew|exact((ξ xO w).alloc _).drewN _))).mono ?_;rintro e b ⟨rfl,r⟩))
 have E:Far xO w b:=by first|exact(((ξ xO w).alloc _).drew).below r|exact(((ξ xO w).alloc _).drewN _).below r
 have m:yb b a s p d:=E.heap cf.out (λe=>e);have y:b.heap[w.heap.size]? =W (J #[V I 0,U ⟨#[]⟩,V I 0] 305):=(r.block _ (by simp)).trans c3.out;obtain⟨d2,d5,d3⟩:=zx3 E m y;have bw:=zF m 1 rfl;have bk:(b.alloc (J #[V I 2,U f,V I (p:Int)] 305)).frozen? ⟨a,1,O⟩=false:=ag (aa _ m) 1;have a1:(b.alloc (J #[V I 2,U f,V I (p:Int)] 305)).cell? ⟨a,1,O⟩=W (V I (p:Int)):=ae (aa _ m) 1;have b2:yb ((b.alloc (J #[V I 2,U f,V I (p:Int)] 305)).setCell ⟨a,1,O⟩ (V I l)) a s i d:=by
  have:=ai (aa (J #[V I 2,U f,V I (p:Int)] 305) m) 1 (V I l);rw[<-b0]at this ⊢;exact this
 have ds:a < b.heap.size:=lt_of_heap m;have ac:((b.alloc (J #[V I 2,U f,V I (p:Int)] 305)).setCell ⟨a,1,O⟩ (V I l)).heap[b.heap.size]? =W (J #[V I 2,U f,V I (p:Int)] 305 (0,0)):=(Below.heap_setCell _ _ _ _ (by show b.heap.size≠a;omega)).trans (af _ _);have b5:((b.alloc (J #[V I 2,U f,V I (p:Int)] 305)).setCell ⟨a,1,O⟩ (V I l)).heap[w.heap.size]? =W (J #[V I 0,U ⟨#[]⟩,V I 0] 305):=(Below.heap_setCell _ _ _ _ (by show w.heap.size≠a;omega)).trans (aa _ y);have bn:Far (·=a) w ((b.alloc (J #[V I 2,U f,V I (p:Int)] 305)).setCell ⟨a,1,O⟩ (V I l)):=((E.mono (D':=(·=a)) (λ_ _ e=>e.elim)).alloc _).setCell (p:=⟨a,1,O⟩) (λ_=>rfl) _;obtain⟨N,z⟩:∃N,b.heap.size=N:=⟨_,rfl⟩;have d1:w.heap.size < N:=by rw[<-z];exact lt_of_heap y
 rw[z]at ac;obtain⟨c6,R,b3,bm,ck⟩:=zx5 z b2 ac b5 bn;clear E m y r b2 ac b5 bn z ds
 go_wp2_with fail
 generalize ((b.alloc (J #[V I 2,U f,V I (p:Int)] 305)).setCell ⟨a,1,O⟩ (V I l))=cm at *;rw[c6.out];refine(c2.out cm R.out).mono ?_;rintro e w5 ⟨rfl,t⟩;have x:=R.out.below t (lt_of_heap R.out);have j:=(t.block _ (lt_of_heap b3.out)).trans b3.out;have u5:=(t.block _ (lt_of_heap bm.out)).trans bm.out;have G:=ck.out.below t;cases T with
 |true=>
  have b9:=zF j 0 rfl;have cl:=zF j 1 rfl;have b6:=zF j 2 rfl;have b8:=zF u5 0 rfl;have ca:=zF u5 1 rfl;have c5:=zF u5 2 rfl;have c9:=ag u5 0;have ch:=ag u5 1;have dv:=ag u5 2;obtain⟨dp,dr,dc⟩:=zx3 x u5 G;clear x j u5 G t L D bw a1 bk
  go_wp2_with fail
  rw[<-bs.out];exact aF results260 w w5 a s i d ⟨2,o,p⟩ _ dr.out dp.out dc.out a4 rfl rfl
 |false=>
  have dn:ad=true:=by simpa using X
  subst dn;have al:=eC w5 [58] 5;have c1:=zD (cb.out w5.heap.size (w5.alloc (J #[V .u8 58] 5)) (aa _ x) al);have an:=aa (J #[V .u8 58] 5) j;have u6:=aa (J #[V .u8 58] 5) u5;have ao:yb (w5.alloc (J #[V .u8 58] 5)) a s i d:=aa _ x;have bb:=G.alloc (J #[V .u8 58] 5);obtain⟨cc,ct,av,c0⟩:=zx4 an ao u6 bb;clear x j u5 G t L D bw a1 bk ao an u6 bb al
  go_wp2_with fail
  refine c1.out.mono ?_;rintro e a5 ⟨rfl,rfl⟩;have j:=cc.out;have u5:=av.out;generalize (w5.alloc (J #[V .u8 58] 5))=a5 at *;have b9:=zF j 0 rfl;have cl:=zF j 1 rfl;have b6:=zF j 2 rfl;have b8:=zF u5 0 rfl;have ca:=zF u5 1 rfl;have c5:=zF u5 2 rfl;have c9:=ag u5 0;have ch:=ag u5 1;have dv:=ag u5 2;clear j u5
  go_wp2_with fail
  rw[<-bs.out];exact aF results260 w a5 a s i d ⟨2,o,p⟩ _ av.out ct.out c0.out a4 rfl rfl
theorem cX(s:ByteArray)(p m:Nat)(a:Ln.right (s.data.toList.drop p)=true)(b:∀c∈(s.data.toList.drop p).take m,c.toNat < 128):Ln.right (s.data.toList.drop (p+m))=true:=by
 rw[<-List.drop_drop,<-Ln.aS _ _ b,List.take_append_drop];exact a
theorem sb(args:Array Value)(w:World):(callFunc 260 args).run π w=.ok (.enter 260 args) w:=by kernel_rfl
theorem rZ(args:Array Value)(w:World):(callFunc 261 args).run π w=.ok (.enter 261 args) w:=by kernel_rfl
theorem kV(args:Array Value)(w:World):(callFunc 262 args).run π w=.ok (.enter 262 args) w:=by kernel_rfl
theorem rY(args:Array Value)(w:World):(callFunc 263 args).run π w=.ok (.enter 263 args) w:=by kernel_rfl
theorem kU(args:Array Value)(w:World):(callFunc 264 args).run π w=.ok (.enter 264 args) w:=by kernel_rfl
theorem gn(args:Array Value)(w:World):(callFunc 265 args).run π w=.ok (.enter 265 args) w:=by kernel_rfl
theorem qf(b:UInt8)(a:Tp.signC b=true):b.toNat < 128:=by
 unfold Tp.signC at a;simp at a
 omega
theorem oG(a:UInt8)(b:Tp.plainC a=true):a.toNat < 128:=(a8 a b).1
theorem j7(d:Nat)(e:Bool)(l:Tp.B)(k:Int)(b:Tp.B)(c m:Nat)(a:(let u:=Tp.ptake d e l;let s:=Tp.trimR (l.take u);if Tp.okPlain s then W ((1:Int),s,d,u)else O)=W (k,b,c,m)):
 k=1/\m=Tp.ptake d e l/\b=Tp.trimR (l.take m)/\c=d/\Tp.okPlain b=true:=by
 simp only at a;split at a
 ·rename_i hk
  injection a with a;injection a with h1 a;injection a with h2 a;injection a with h3 h4;subst h1 h2 h3 h4;exact⟨rfl,rfl,rfl,rfl,hk⟩
 ·cases a
theorem mX(l:Tp.B)(m:Nat)(c:Tp.okPlain (Tp.trimR (l.take m))=true):∀a∈l.take m,a.toNat < 128:=by
 intro a d;rcases fe _ _ d with b|b
 ·exact oG a ((ci _ c).1 a b)
 ·rw[b];decide
theorem tE(f:Nat)(s:ByteArray)(p d:Nat)(be:s.size<=100000)(b5:Ln.right s.data.toList=true)(a3:Ln.right (s.data.toList.drop p)=true)(c:UInt8)(t:Tp.B)(S:s.data.toList.drop p=c::t)(c0:d<=500000)
(k:Int)(ad:Tp.B)(R m:Nat)(b:Tp.one d (yF s p) (c::t)=W (k,ad,R,m)):1<=m/\p+m<=s.size/\Ln.right (s.data.toList.drop (p+m))=true/\R<=d+1/\
 ∀(w:World),Glob w->10<=f->yb w f s p d->Calls π 198 #[Z (W ⟨f,0,O⟩)] w (yh w f s (p+m) R ⟨k,ad,p⟩):=by
 obtain⟨z,N,b3⟩:=go _ _ _ _ S;rw[ap]at b3;have c4:t.length=s.size - (p+1):=by rw[<-N,zZ,ap]
 unfold Tp.one at b;simp only at b;by_cases T:c.toNat=34\/c.toNat=39
 ·rw[if_pos T]at b
  have b1:c=34\/c=39:=T.imp (λe=>UInt8.toNat_inj.1 e) (λe=>UInt8.toNat_inj.1 e);have bk:c.toNat < 128:=by omega
  have bx:Ln.right (s.data.toList.drop (p+1))=true:=cX s p 1 a3 (by rw[S];intro x M;simp at M;subst M;exact bk);cases an:Tp.unq c (t.length+1) t with
  |none=>rw[an]at b;cases b
  |some x=>
   obtain⟨o,al⟩:=x;rw[an]at b;simp only at b;split at b
   ·rename_i hend
    injection b with b;injection b with y b;injection b with v b;injection b with j i;rw[<-N]at an;obtain⟨ct,e,c3,c1,cv,bw,cm,c2,co,b6⟩:=cd c b1 s _ (p+1) o al bx an;have c5:al.length=s.size - e:=by rw[<-bw,zZ,ap]
    have a2:p+m=s.size - al.length:=by omega
    refine⟨by omega,by omega,?_,by omega,λw G F r=>?_⟩
    ·rw[a2,show s.size - al.length=e by omega,bw];exact b6
    ·rw[a2,<-y,<-v,<-j]
     have E:(V .u8 (c.toNat:Int),rdF 260 f)∈yG f:=by
      unfold yG;rcases T with e|e<;>rw[e]<;>simp
     exact bV 260 c f s p d _ _ _ (by omega) z E (λa w=>sb a w) w r (λg n H=>oC c b1 f s p d be b5 z bx _ o al an hend g (G.step H) F n)
   ·cases b
 rw[if_neg T]at b;by_cases ba:c.toNat=38\/c.toNat=42
 ·rw[if_pos ba]at b
  split at b
  ·rename_i hcond
   injection b with b;injection b with y b;injection b with v b;injection b with j i;rw[zQ]at hcond;obtain⟨cl,ck⟩:=hcond;have bR:=(List.takeWhile_sublist Tp.signC (l:=t)).length_le;have b0:c=38\/c=42:=ba.imp (λe=>UInt8.toNat_inj.1 e) (λe=>UInt8.toNat_inj.1 e);have b4:p+m=p+1+(t.takeWhile Tp.signC).length:=by omega
   refine⟨by omega,by omega,?_,by omega,λw G F r=>?_⟩
   ·refine cX s p m a3 ?_
    rw[S,<-i,Nat.add_comm 1,List.take_succ_cons];intro x M;rcases List.mem_cons.1 M with rfl|M
    ·omega
    ·rw[dd]at M
     exact qf x ((List.all_eq_true.1 (List.all_takeWhile (p:=Tp.signC) (l:=t))) x M)
   ·have E:(V .u8 (c.toNat:Int),rdF 261 f)∈yG f:=by
     unfold yG;rcases ba with e|e<;>rw[e]<;>simp
    have bD:=λg n=>qZ c b0 f s p d be z (by rw[N];exact cl) (by rw[N,<-List.drop_drop,N];exact ck) g n;rw[N,<-b4]at bD;have b8:k=if c=38 then 3 else 4:=by
     rw[<-y];rcases b0 with rfl|rfl<;>rfl
    rw[b8,<-v,<-j];exact bV 261 c f s p d _ _ _ (by omega) z E (λa w=>rZ a w) w r (λg n H=>bD g n)
  ·cases b
 rw[if_neg ba]at b;have bb:(let u:=Tp.ptake d (yF s p) (c::t);let s:=Tp.trimR ((c::t).take u);if Tp.okPlain s then W ((1:Int),s,d,u)else O)=W (k,ad,R,m)->
  1<=m/\p+m<=s.size/\Ln.right (s.data.toList.drop (p+m))=true/\R<=d+1/\∀(g:World),Glob g->10<=f->yb g f s p d->Calls π 234 #[Z (W ⟨f,0,O⟩)] g (yh g f s (p+m) R ⟨k,ad,p⟩):=by
  intro cb;obtain⟨y,v,j,i,ab⟩:=j7 d (yF s p) (c::t) k ad R m cb;have bR:=(fH s d (c::t) p S).2.2;rw[<-v]at bR;have ch:1<=m:=by
   rcases Nat.eq_zero_or_pos m with bn|bn
   ·rw[bn]at j
    rw[j]at ab;simp[Tp.trimR,Tp.okPlain]at ab
   ·exact bn
  refine⟨ch,by omega,cX s p m a3 (by rw[S];exact mX _ m (by rw[<-j];exact ab)),by omega,λg G F r=>?_⟩;have b2:=oF f s p d be b3 (by rw[S,<-v,<-j];exact ab) g G F r;rw[S,<-v,<-j]at b2;rw[y,i];exact b2
 have X:∀ao:Nat,m=1->c.toNat < 128->1<=m/\p+m<=s.size/\Ln.right (s.data.toList.drop (p+m))=true:=by
  intro ao a2 bk;rw[a2];exact⟨η _,by omega,cX s p 1 a3 (by rw[S];intro x M;simp at M;subst M;exact bk)⟩
 by_cases bm:c.toNat=45
 ·rw[if_pos bm]at b
  have E:(V .u8 (c.toNat:Int),rdF 262 f)∈yG f:=by
   unfold yG;rw[bm];simp
  cases P:Tp.isB t with
  |true=>
   rw[P,if_pos rfl]at b;by_cases L:d=0
   ·rw[if_pos L]at b
    injection b with b;injection b with y b;injection b with v b;injection b with j i;obtain⟨A,C,D⟩:=X 0 i.symm (by omega);refine⟨A,C,D,by omega,λw G F r=>?_⟩;subst L;rw[<-y,<-v,<-j,<-i];exact bV 262 c f s p 0 _ _ _ (by omega) z E (λa w=>kV a w) w r (λg n H=>ul f s p (by omega) (by omega) (by rw[N];exact P) g n)
   ·rw[if_neg L]at b;cases b
  |false=>
   rw[P,if_neg (by decide)]at b;obtain⟨A,C,D,a5,a4⟩:=bb b;exact⟨A,C,D,a5,λw G F r=>bV 262 c f s p d _ _ _ (by omega) z E (λa w=>kV a w) w r (λg n H=>pw f s p d _ _ _ (by omega) (by omega) (by rw[N];exact P) g n (λcc b9 cf=>a4 cc ((G.step H).step cf) F b9))⟩
 rw[if_neg bm]at b;by_cases ac:c.toNat=58
 ·rw[if_pos ac]at b
  have E:(V .u8 (c.toNat:Int),rdF 263 f)∈yG f:=by
   unfold yG;rw[ac];simp
  cases P:Tp.closed d t with
  |true=>
   rw[P,if_pos rfl]at b;injection b with b;injection b with y b;injection b with v b;injection b with j i;obtain⟨A,C,D⟩:=X 0 i.symm (by omega);refine⟨A,C,D,by omega,λw G F r=>?_⟩;rw[<-y,<-v,<-j,<-i];exact bV 263 c f s p d _ _ _ (by omega) z E (λa w=>rY a w) w r (λg n H=>sA f s p d (by omega) (by omega) (by rw[N];exact P) g n)
  |false=>
   rw[P,if_neg (by decide)]at b;exfalso
   obtain⟨y,v,j,i,ab⟩:=j7 d (yF s p) (c::t) k ad R m b;obtain⟨A,C,D,a5,a4⟩:=bb b;obtain⟨ao,rfl⟩:∃ao,m=ao+1:=⟨m - 1,by omega⟩;have ca:c∈(c::t).take (ao+1):=by simp
   rcases fe _ _ ca with bs|bs
   ·have:=(a8 c ((ci _ ab).1 c (by rw[j];exact bs))).2.2.2.1
    exact this ac
   ·rw[bs]at ac;exact absurd ac (by decide)
 rw[if_neg ac]at b;by_cases a0:c.toNat=91
 ·rw[if_pos a0]at b
  have E:(V .u8 (c.toNat:Int),rdF 264 f)∈yG f:=by
   unfold yG;rw[a0];simp
  injection b with b;injection b with y b;injection b with v b;injection b with j i;obtain⟨A,C,D⟩:=X 0 i.symm (by omega);refine⟨A,C,D,by omega,λw G F r=>?_⟩;rw[<-y,<-v,<-j,<-i];exact bV 264 c f s p d _ _ _ (by omega) z E (λa w=>kU a w) w r (λg n H=>qM f s p d (by omega) (by omega) (by omega) (by rw[bf s p c z,show c=91 from UInt8.toNat_inj.1 a0];rfl) g n)
 rw[if_neg a0]at b;by_cases a1:c.toNat=123
 ·rw[if_pos a1]at b
  have E:(V .u8 (c.toNat:Int),rdF 264 f)∈yG f:=by
   unfold yG;rw[a1];simp
  injection b with b;injection b with y b;injection b with v b;injection b with j i;obtain⟨A,C,D⟩:=X 0 i.symm (by omega);refine⟨A,C,D,by omega,λw G F r=>?_⟩;rw[<-y,<-v,<-j,<-i];exact bV 264 c f s p d _ _ _ (by omega) z E (λa w=>kU a w) w r (λg n H=>qN f s p d (by omega) (by omega) (by omega) (by rw[bf s p c z,show c=123 from UInt8.toNat_inj.1 a1];rfl) g n)
 rw[if_neg a1]at b;by_cases av:c.toNat=44
 ·rw[if_pos av]at b
  have E:(V .u8 (c.toNat:Int),rdF 265 f)∈yG f:=by
   unfold yG;rw[av];simp
  by_cases L:d=0
  ·rw[if_pos L]at b;cases b
  rw[if_neg L]at b;injection b with b;injection b with y b;injection b with v b;injection b with j i;obtain⟨A,C,D⟩:=X 0 i.symm (by omega);refine⟨A,C,D,by omega,λw G F r=>?_⟩;rw[<-y,<-v,<-j,<-i];obtain⟨e,rfl⟩:∃e,d=e+1:=⟨d - 1,by omega⟩;exact bV 265 c f s p (e+1) _ _ _ (by omega) z E (λa w=>gn a w) w r (λg n H=>kJ f s p e (by omega) (by omega) (by omega) (by rw[z,show c=44 from UInt8.toNat_inj.1 av]) g n)
 rw[if_neg av]at b;by_cases a6:c.toNat=93
 ·rw[if_pos a6]at b
  have E:(V .u8 (c.toNat:Int),rdF 265 f)∈yG f:=by
   unfold yG;rw[a6];simp
  by_cases L:d=0
  ·rw[if_pos L]at b;cases b
  rw[if_neg L]at b;injection b with b;injection b with y b;injection b with v b;injection b with j i;obtain⟨A,C,D⟩:=X 0 i.symm (by omega);refine⟨A,C,D,by omega,λw G F r=>?_⟩;rw[<-y,<-v,<-j,<-i];obtain⟨e,rfl⟩:∃e,d=e+1:=⟨d - 1,by omega⟩;exact bV 265 c f s p (e+1) _ _ _ (by omega) z E (λa w=>gn a w) w r (λg n H=>kK f s p e (by omega) (by omega) (by omega) (by rw[z,show c=93 from UInt8.toNat_inj.1 a6]) g n)
 rw[if_neg a6]at b;by_cases a9:c.toNat=125
 ·rw[if_pos a9]at b
  have E:(V .u8 (c.toNat:Int),rdF 265 f)∈yG f:=by
   unfold yG;rw[a9];simp
  by_cases L:d=0
  ·rw[if_pos L]at b;cases b
  rw[if_neg L]at b;injection b with b;injection b with y b;injection b with v b;injection b with j i;obtain⟨A,C,D⟩:=X 0 i.symm (by omega);refine⟨A,C,D,by omega,λw G F r=>?_⟩;rw[<-y,<-v,<-j,<-i];obtain⟨e,rfl⟩:∃e,d=e+1:=⟨d - 1,by omega⟩;exact bV 265 c f s p (e+1) _ _ _ (by omega) z E (λa w=>gn a w) w r (λg n H=>pi f s p e (by omega) (by omega) (by omega) (by rw[z,show c=125 from UInt8.toNat_inj.1 a9]) g n)
 rw[if_neg a9]at b;obtain⟨A,C,D,a5,a4⟩:=bb b;refine⟨A,C,D,a5,λw G F r=>qP c f s p d _ _ _ (by omega) z ?_ w r (λg n H=>a4 g (G.step H) F n)⟩;intro q T e;unfold yG at T;simp only[List.mem_cons,List.not_mem_nil,or_false]at T;rcases T with rfl|rfl|rfl|rfl|rfl|rfl|rfl|rfl|rfl|rfl|rfl<;>simp only at e<;>injection e with _ e<;>omega
section
attribute [local go_sem ↓] Go.wp_at_zero Go.wp_at_succ
attribute [local go_sem] ak
theorem sh(args:Array Value)(w:World):(callFunc 195 args).run π w=.ok (.enter 195 args) w:=by kernel_rfl
theorem iM(a:Nat)(w:World):Calls π 151 #[Z (W ⟨a,0,O⟩)] w λe w'=>e=ρ (φ (.func 195) #[] #[Z (W ⟨w.heap.size,0,O⟩)])/\w'=w.alloc (J #[Z (W ⟨a,0,O⟩)] 296):=by
 go_enter func151,ntmps151
 go_wp2
 go_ret
 exact⟨rfl,rfl⟩
def TkE(b:List Tp.Tk)(t:Nat)(v:Array Value)(a:NS)(_:World):Prop:=(∃x,b[t]? =W x/\v=#[tkV x,.nilIface])/\a=xO
theorem vh(s:ByteArray)(p m:Nat)(b:1<=m)(c:p+m<=s.size):yF s (p+m)=(((s.data.toList.drop p).getD (m - 1) 0).toNat==32):=by
 have a:p+m - 1 < s.data.toList.length:=by rw[ap];omega
 rw[show p+m=(p+m - 1)+1 by omega,fJ s (p+m - 1) _ (zE a)];congr 2
 rw[zY,List.getElem?_drop,show p+(m - 1)=p+m - 1 by omega,zE a];rfl
theorem gE(s:ByteArray)(f4:s.size<=100000)(cl:Ln.right s.data.toList=true)(n:Nat)(C:List Tp.Tk)(d2:Tp.toks n 0 true 0 s.data.toList=W C)(b q:Nat)(d4:10<=b)(hg:10<=q)(c3:b≠q)(w:World)(a3:w.heap[q]? =W (.cells #[Z (W ⟨b,0,O⟩)] 296 (0,0)))(al:yb w b s 0 0)(ba:Glob w):
 yQ π 195 #[Z (W ⟨q,0,O⟩)] 3 C.length (TkE C) (·=b) (λk=>k < 10\/k=q) False (λ_ _=>True) (λ_=>True) w:=by
 intro l J g8 c1 v bk fn hF0 bD ex g1 c6 gx;have er:∀k,c1 k->10<=k/\k≠b/\k≠q:=λk a=>by have:=hF0 k a;omega
 replace a3:=(bk.block _ (lt_of_heap a3)).trans a3
 replace al:yb v b s 0 0:=(bk.block _ (lt_of_heap al)).trans al
 replace ba:=ba.step bk
 obtain⟨base,c2⟩:∃b,w.heap.size=b:=⟨_,rfl⟩;rw[c2]at bD ex;obtain⟨ao,ca⟩:∃ao,C.length=ao:=⟨_,rfl⟩;have ch:=λp d a=>tE b s p d f4 cl a;obtain⟨H,ge,a1,fl,fs,ft⟩:=zx6 bD c6 ca er ch a3;obtain⟨gk,gb,gr⟩:=zx3 al ba d2;rw[ca];clear bD c6 ca er hF0 g1 ex bk fn c2 ch a3 al ba d2
 go_enter func195,ntmps195
 go_wp2_with fail
 go_step3
 go_wp2_with fail
 go_step3
 go_wp2_with fail
 go_loopw [] (λwr=>∃(t p d n:Nat) (j:NS),wr.heap[q]? =W (.cells #[Z (W ⟨b,0,O⟩)] 296 (0,0))/\yb wr b s p d/\Tp.toks n d (yF s p) p (s.data.toList.drop p)=W (C.drop t)/\Ln.right (s.data.toList.drop p)=true/\p<=s.size/\d<=p/\t<=ao/\Glob wr/\J t j wr/\(∀k,j k->10<=k/\k≠b/\k≠q)) (λwr=>s.size+1 - AH wr b)
 case atStart=>exact⟨0,0,0,n,c1,ft.out,gk.out,by rw[show yF s 0=true by unfold yF;rfl];exact gr.out,cl,z_ _,η _,z_ _,gb.out,gx,fl.out⟩
 case round=>
  obtain⟨t,p,d,n,j,i,r,f,F,he,hc,f6,ct,d1,c5⟩:=hrel;have e3:AH wr b=p:=gz r;have G:=zF i 0 rfl;have g0:=zF r 0 rfl;have bn:=zF r 1 rfl;obtain⟨E,o,A,cv,b2⟩:=zx5 c5 i r ct d1;clear c5 i r ct d1
  match n,f with
  |0,f=>simp[Tp.toks]at f
  |n+1,f=>
  obtain⟨l,z⟩:∃l,s.data.toList.drop p=l:=⟨_,rfl⟩;rw[z]at f F
  match l,z,f,F with
  | [],z,f,F=>
   have hk:s.size<=p:=by
    have:=congrArg List.length z;rw[zZ,ap]at this;simp at this
    omega
   have hd:decide ((p:Int) < (s.size:Int))=false:=decide_eq_false (by omega);have f7:∀v,(binOp .lss 3 (V I (p:Int)) (V I (s.size:Int))).run π v=.ok (β false) v:=λv=>by simp[go_sem];omega
   have bw:t=ao:=by
    rw[Tp.toks]at f;injection f with f;have:=congrArg List.length f;rw[zZ,a1.out]at this;simp at this
    omega
   subst bw;clear f F
   go_wp2_with fail
   go_quiet (fail)
   go_wp2_with fail
   rw[Exit.noGoto_normal]
   go_end0
   exact⟨⟨_,rfl⟩,.inl ⟨j,H.out t j _ _ b2.out ((ξ _ wr).drewN _),trivial⟩⟩
  |c::u,z,f,F=>
   obtain⟨b0,d0,g3⟩:=go _ _ _ _ z;rw[ap]at g3;have f7:∀v,(binOp .lss 3 (V I (p:Int)) (V I (s.size:Int))).run π v=.ok (β true) v:=λv=>by simp[go_sem];omega
   have bR:=λv g g4 gc=>cO b s p d p 0 (by omega) (by omega) (by omega) [32] g 1 rfl (by omega) v g4 gc;rw[bf s p c b0]at bR;have b1:=im b s p d (by omega) (by omega);rw[show y7 s p=(c.toNat==35&&yF s p)by unfold y7;rw[bf s p c b0];unfold yF;rw[Bool.eq_iff_iff];simp[List.contains_cons,<-UInt8.toNat_inj]]at b1;obtain⟨fG,fR⟩:=zx2 bR b1;clear bR b1
   go_wp2_with fail
   go_quiet (fail)
   have i:(wr.drewN nq).heap[q]? =W (.cells #[Z (W ⟨b,0,O⟩)] 296 (0,0)):=o.out;have r:yb (wr.drewN nq) b s p d:=A.out;have dr:Glob (wr.drewN nq):=cv.out.far ((ξ xO wr).drewN nq) (λ_ _ e=>e);have cf:=H.out t j _ _ b2.out ((ξ _ wr).drewN nq);clear G g0 bn o A cv b2
   go_upto_region 1 with (fail)
   generalize wr.drewN nq=D at *;have G:=zF i 0 rfl;have co:(D.alloc (.cells #[V .u8 32] 5)).heap[q]? =W (.cells #[Z (W ⟨b,0,O⟩)] 296 (0,0)):=aa _ i;have b6:yb (D.alloc (.cells #[V .u8 32] 5)) b s p d:=aa _ r;have d5:=dr.far (((ξ xO D)).alloc (.cells #[V .u8 32] 5)) (λ_ _ e=>e);have eg:=H.out t j _ _ cf ((ξ _ D).alloc (.cells #[V .u8 32] 5));have c9:=zD (fG.out (D.alloc (.cells #[V .u8 32] 5)) D.heap.size b6 (eC D [32] 5));obtain⟨o,A,b9,b4⟩:=zx4 co b6 d5 eg;clear i r co b6 dr cf d5 eg
   go_wp2_with fail
   refine c9.out.mono ?_;rintro e hj ⟨rfl,rfl⟩;clear G c9;generalize D.alloc (.cells #[V .u8 32] 5)=a4 at *;have G:=zF o.out 0 rfl;rw[Tp.toks]at f;by_cases a0:c.toNat=32
   ·rw[if_pos a0]at f
    rw[show ([32]:List UInt8).contains c=true by rw[show c=32 from UInt8.toNat_inj.1 a0];rfl];have bn:=zF A.out 1 rfl;have hf:=ag A.out 1;have gl:IntKind.i64.wrap ((p:Int)+1)=((p+1:Nat):Int):=by rw[show (p:Int)+1=((p+1:Nat):Int)by omega];exact zU _ (by omega)
    obtain⟨L,bx⟩:∃L:Int,((p+1:Nat):Int)=L:=⟨_,rfl⟩;rw[bx]at gl;have b8:=ai A.out 1 (V I L);have es:yb (a4.setCell ⟨b,1,O⟩ (V I L)) b s (p+1) d:=by rw[<-bx]at b8 ⊢;exact b8
    have ei:(a4.setCell ⟨b,1,O⟩ (V I L)).heap[q]? =W (.cells #[Z (W ⟨b,0,O⟩)] 296 (0,0)):=(Below.heap_setCell _ _ _ _ (λe=>c3 e.symm)).trans o.out;have X:=H.out t j _ _ b4.out ((ξ _ a4).setCell (p:=⟨b,1,O⟩) (λ_=>⟨λa=>(E.out _ a).2.1 rfl,.inl rfl⟩) (V I L));have ad:=b9.out.keep ((ζ 10 a4).setCell (p:=⟨b,1,O⟩) d4 (V I L)) (η _);obtain⟨a6,S,av,ab⟩:=zx4 ei es ad X;have e8:Ln.right u=true:=by rw[<-Ln.aR c u (by omega)];exact F
    have a5:yF s (p+1)=true:=by rw[fJ s p c b0,a0];rfl
    clear ei b8 es ad X bx
    go_wp2_with fail
    go_roundw
    case rel=>exact⟨t,p+1,d,n,j,a6.out,S.out,by rw[a5,d0];exact f,by rw[d0];exact e8,by omega,by omega,f6,av.out,ab.out,E.out⟩
    case measure=>rw[e3,gz S.out];omega
   ·rw[if_neg a0]at f
    rw[show ([32]:List UInt8).contains c=false by rw[Bool.eq_false_iff];intro a;simp at a;exact a0 (by rw[a];rfl)]
    go_wp2_with fail
    refine(fR.out a4 A.out).mono ?_;rintro e g6 ⟨rfl,ac⟩;have i:=(ac.block _ (lt_of_heap o.out)).trans o.out;have r:=A.out.below ac (lt_of_heap A.out);have ad:=b9.out.step ac;have X:=H.out t j _ _ b4.out (vJ ac);obtain⟨a6,S,av,ab⟩:=zx4 i r ad X;clear ad X ac G o A b9 b4;by_cases a2:c.toNat=35/\yF s p=true
    ·rw[if_pos a2]at f
     rw[show (c.toNat==35&&yF s p)=true by rw[a2.2,a2.1];rfl];have bw:t=ao:=by
      injection f with f;have:=congrArg List.length f;rw[zZ,a1.out]at this;simp at this
      omega
     subst bw
     go_wp2_with fail
     rw[Exit.noGoto_normal]
     go_end0
     exact⟨⟨_,rfl⟩,.inl ⟨j,ab.out,trivial⟩⟩
    ·rw[if_neg a2]at f
     rw[show (c.toNat==35&&yF s p)=false by rw[Bool.eq_false_iff];intro a;simp at a;exact a2 a];cases a9:Tp.one d (yF s p) (c::u) with
     |none=>rw[a9]at f;cases f
     |some x=>
     obtain⟨k,N,bm,m⟩:=x;rw[a9]at f;simp only at f;obtain⟨g7,f9,be⟩:=zN.1 f;have P:t < C.length:=by
      rcases Nat.lt_or_ge t C.length with a|a
      ·exact a
      ·rw[List.drop_eq_nil_of_le a]at be;cases be
     have e4:=zW P;rw[e4]at be;injection be with hx0 hx1;have fz:C[t]? =W ⟨k,N,p⟩:=by rw[zE P,<-hx0]
     obtain⟨gf,d6,ga,hb,ck⟩:=fs.out p d (by rw[z];exact F) c u z (by omega) k N bm m a9;have a5:=vh s p m gf d6;rw[z]at a5;have cm:=ck g6 av.out d4 S.out;have e2:=zD cm;have bn:=zF r 1 rfl;have G:=zF i 0 rfl;clear cm ck a9 f e4 hx0 i r
     go_wp2_with fail
     refine e2.out.mono ?_;rintro e M ⟨rfl,dc,bs⟩;obtain⟨y,dv⟩:∃y:ByteArray,(⟨N.toArray⟩:ByteArray)=y:=⟨_,rfl⟩;have c0:xR N=U y:=by rw[<-dv];rfl
     have b3:tkV ⟨k,N,p⟩=γ #[V I k,U y,V I (p:Int)]:=by unfold tkV;simp only;rw[c0]
     rw[b3];have e9:=zD b3;have i:=bs.heap a6.out (λe=>c3 e.symm);have df:=av.out.far bs (λk f0 e=>by omega);have e0:=H.out t j _ _ ab.out (bs.mono (λk _ e=>⟨λa=>(E.out k a).2.1 e,.inl e⟩));obtain⟨d3,da,e1,eq⟩:=zx4 i dc df e0;clear i dc bs df e0 a6 S av ab bn G e2 dv c0 b3
     go_upto_region 7 with (fail)
     refine(wpIn_wide (n:=4)).1 ?_;have i:=aa (.cells #[V I k,U y,V I (p:Int)] 305) d3.out;have T:yb (M.alloc (.cells #[V I k,U y,V I (p:Int)] 305)) b s (p+m) bm:=aa _ da.out;have an:=af M (.cells #[V I k,U y,V I (p:Int)] 305);have dp:=e1.out.far ((ξ xO M).alloc (.cells #[V I k,U y,V I (p:Int)] 305)) (λ_ _ e=>e);have ds:=H.out t j _ _ eq.out ((ξ _ M).alloc (.cells #[V I k,U y,V I (p:Int)] 305));obtain⟨db,c4⟩:∃db,M.heap.size=db:=⟨_,rfl⟩;rw[c4]at an ⊢;clear d3 da e1 eq c4;generalize M.alloc (.cells #[V I k,U y,V I (p:Int)] 305)=f3 at *;have fr:=zF an 0 rfl;have f1:=zF an 1 rfl;have e6:=zF an 2 rfl;obtain⟨hl,hh,assign,body,f2,e5⟩:=ge.out t (by rw[a1.out];rw[a1.out]at P;exact P) j xO #[tkV ⟨k,N,p⟩,.nilIface] f3 ds ⟨⟨_,fz,rfl⟩,rfl⟩ (λ_ a=>a.elim);rw[e9.out]at f2;obtain⟨g2,o,R,f8⟩:=zx4 e5 i T dp;clear e5 i T dp ds an
     gi_wp2
     refine(g2.out).mono ?_;rintro e f5 ⟨b5,⟨bb,cc⟩,(⟨rfl,en⟩|⟨rfl,fv⟩)⟩
     ·have i:=bb.heap o.out (λa=>(E.out _ a).2.2 rfl)
      have T:yb f5 b s (p+m) bm:=bb.heap R.out (λa=>(E.out _ a).2.1 rfl);have cb:=f8.out.far bb (λk f0 a=>by have:=(E.out _ a).1;omega);have dn:∀k,b5 k->10<=k/\k≠b/\k≠q:=by
       intro k a;rcases cc k a with a|a|a
       ·exact E.out k a
       ·exact a.elim
       ·have ha:=lt_of_heap o.out
        have hi:=lt_of_heap R.out;omega
      obtain⟨gg,g5,e7,o,R⟩:=zx5 dn en cb i T;clear en bb cc dn cb i T fr f1 e6
      gi_wp2
      go_wp2_with fail
      go_roundw
      case rel=>exact⟨t+1,p+m,bm,n,b5,o.out,R.out,by rw[a5,<-List.drop_drop,z,<-hx1];exact f9,ga,d6,by omega,by rw[a1.out]at P;exact P,e7.out,g5.out,gg.out⟩
      case measure=>rw[e3,gz R.out];omega
     ·gi_wp2
      go_wp2_with fail
      rw[Exit.noGoto_normal]
      go_end0
      exact⟨⟨_,rfl⟩,.inr ⟨b5,fv⟩⟩
end
section
attribute [local go_sem] ak
attribute [local go_sem] Oper.semAt_some
def Ar(x:Nat):Bool:=decide ((x:Int) < 32)||decide ((x:Int)=127)
theorem kM(s:ByteArray):∀(b a:Nat),Ln.plainB (s.data.toList.drop a)=true->Lib.idxFuncFrom Ar true s b a=-1
 |0,a,h=>rfl
 |b+1,a,h=>by
  unfold Lib.idxFuncFrom;by_cases c:a < s.size
  ·have d:s.data.toList.drop a≠[]:=by
    intro e;have:=congrArg List.length e;rw[zZ,ap]at this;simp at this
    omega
   rw[if_pos c,aX];have f:¬((Ln.dec (s.data.toList.drop a)).1 < 32\/(Ln.dec (s.data.toList.drop a)).1=127):=λe=>by
    rw[Ln.j6 _ d e]at h;cases h
   rw[if_neg (by unfold Ar;simp;omega)];rw[Ln.ia _ d f,List.drop_drop]at h;exact kM s b _ h
  ·rw[if_neg c]
theorem sj(args:Array Value)(w:World):(callFunc 149 args).run π w=.ok (.enter 149 args) w:=by kernel_rfl
theorem oN(w:World):PredGrows π 149 #[] Ar w:=by
 intro a x c b;refine(oO (x:Int) a).mono ?_;rintro e w' ⟨rfl,rfl⟩;exact⟨rfl,ζ _ _⟩
theorem mu(s:ByteArray)(b:Ln.plainB s.data.toList=true)(w:World):Calls π 150 #[U s,φ (.func 149) #[] #[]] w λe w'=>e=ρ (β false)/\Below w.heap.size w w':=by
 refine(strings_ContainsFunc_grows 149 #[] (λa w=>sj a w) Ar s w (oN w)).mono ?_;rintro e w' ⟨rfl,c⟩;refine⟨?_,c⟩;unfold Lib.idxFunc;rw[kM s s.size 0 (by rw[List.drop_zero];exact b)];rfl
def xZ(a:List Tp.Tk):List Value:=a.flatMap λt=>[V I t.k,xR t.s,V I (t.a:Int)]
theorem gF(a b:List Tp.Tk):xZ (a++b)=xZ a++xZ b:=by simp[xZ]
theorem jM(a:List Tp.Tk)(t:Nat)(x:Tp.Tk)(b:a[t]? =W x):xZ (a.take (t+1))=xZ (a.take t)++[V I x.k,xR x.s,V I (x.a:Int)]:=by
 rw[zG,b,gF];rfl
theorem vC:(prog.info? 305).map (λi=>(i.zero,i.size,i.bytes))=W (W (γ #[V I 0,U ⟨#[]⟩,V I 0]),3,32):=by kernel_rfl
def TI(w:World)(p:Nat)(b:List Tp.Tk)(t:Nat)(c:NS)(a:World):Prop:=
 c=RF w.heap.size p/\t<=b.length/\a.heap[w.heap.size]? =W (J #[Y O 0 0] 216 (0,0))/\a.heap[w.heap.size+1]? =W (J #[V I 0] 3 (0,0))/\a.heap[w.heap.size+1+1]? =W (J #[V I 0] 24 (0,0))/\
 (∃v,a.heap[p]? =W (J #[v] 216 (0,0))/\a.ownsRow (p+5) 305 3 v t (xZ (b.take t)))/\Below w.heap.size w a
theorem TI.far{w:World}{p:Nat}{g:List Tp.Tk}{t:Nat}{f D:NS}{c j:World}(x:TI w p g t f c)(b:Far D c j)(a:∀k,D k->w.heap.size<=k/\¬RF w.heap.size p k):TI w p g t f j:=by
 obtain⟨o,l,s,n,r,⟨v,u,q⟩,d⟩:=x;exact⟨o,l,b.heap s (λe=>(a _ e).2 (.inr (.inl rfl))),b.heap n (λe=>(a _ e).2 (.inr (.inr (.inl rfl)))),b.heap r (λe=>(a _ e).2 (.inr (.inr (.inr (.inl rfl))))),⟨v,b.heap u (λe=>(a _ e).2 (.inl rfl)),aw q b (λk m _ e=>(a _ e).2 (.inr (.inr (.inr (.inr m)))))⟩,d.trans (b.to_below d.size (λi y e=>by have:=(a _ e).1;omega))⟩
theorem lM(s:ByteArray)(eq:s.size<=100000)(ba:Ln.right s.data.toList=true)(ck:Ln.plainB s.data.toList=true)(n:Nat)(z:List Tp.Tk)(ct:Tp.toks n 0 true 0 s.data.toList=W z)(fs:z.length<=100000)(w:World)(a5:Glob w):
 Calls π 105 #[U s] w λe w'=>(∃v,e=ρ (.tuple #[v,V I 0,V I 0])/\w'.ownsRow w.heap.size 305 3 v z.length (xZ z))/\Below w.heap.size w w':=by
 obtain⟨es,bm,d5,e7,e1⟩:=info_parts vC;have a6:=bt s (by omega);rw[ba]at a6;have b3:=mu s ck;have b5:=λen db a1 an ds=>gE s eq ba n z ct en db a1 an ds;obtain⟨bk,fl,d6,ei⟩:=zx4 a5 a6 b3 b5;clear a5 a6 b3 b5 ct ba ck;refine callsIn_wide.1 (callsIn_of_wp_marks (n:=5) func105 rfl trivial (wpIn_wide.2 ?_));simp only[ntmps105,List.size_toArray,zO,List.length_nil,Nat.reduceAdd,Nat.reduceSub,Array.replicate_succ,Array.replicate_zero,List.push_toArray,List.append_toArray,List.nil_append,List.cons_append];have bw:Below w.heap.size w (((w.alloc (J #[Y O 0 0] 216)).alloc (J #[V I 0] 3)).alloc (J #[V I 0] 24)):=(((ζ _ _).alloc (η _) _).alloc (by simp) _).alloc (by simp;omega) _
 go_wp2_with fail
 refine(fl.out _ (bk.out.step bw)).mono ?_;rintro e av ⟨rfl,a2⟩;have ad:av.heap[w.heap.size]? =W (J #[Y O 0 0] 216 (0,0)):=(a2.block _ (by simp;omega)).trans (aa _ (aa _ (ah _ _ _ rfl)));have a0:av.heap[w.heap.size+1]? =W (J #[V I 0] 3 (0,0)):=(a2.block _ (by simp)).trans (aa _ (ah _ _ _ (by simp)));have R:av.heap[w.heap.size+1+1]? =W (J #[V I 0] 24 (0,0)):=(a2.block _ (by simp)).trans (ah _ _ _ (by simp));have ao:Below w.heap.size w av:=bw.trans (a2.mono (by simp;omega));obtain⟨a3,u,y,H⟩:=zx4 ad a0 R ao;clear a2 ad a0 R ao bw
 go_wp2_with fail
 refine(d6.out av).mono ?_;rintro e bR ⟨rfl,m⟩;have ad:=(m.block _ (lt_of_heap a3.out)).trans a3.out;have a0:=(m.block _ (lt_of_heap u.out)).trans u.out;have R:=(m.block _ (lt_of_heap y.out)).trans y.out;have ao:=H.out.trans (m.mono H.out.size);have e3:w.heap.size+3<=bR.heap.size:=by have:=lt_of_heap R;omega
 obtain⟨a3,u,y,H⟩:=zx4 ad a0 R ao;clear m ad a0 R ao;obtain⟨p,c6⟩:∃p,bR.heap.size=p:=⟨_,rfl⟩;have r:=zD c6;clear c6
 go_wp2_with fail
 refine(iM _ _).mono ?_;rintro e G ⟨rfl,o⟩;have b0:((bR.alloc (Obj.cells #[Value.slice O 0 0] 216)).alloc (Obj.cells #[Value.string s,Value.int IntKind.i64 0,Value.int IntKind.i64 0] 300)).heap.size=p+1+1:=by simp[r.out]
 rw[b0,r.out];have c5:G.heap.size=p+3:=by rw[o];simp[r.out]
 have c4:G.heap[p]? =W (J #[Y O 0 0] 216 (0,0)):=by rw[o];exact aa _ (aa _ (ah _ _ _ r.out.symm))
 have cm:yb G (p+1) s 0 0:=by rw[o];exact aa _ (ah _ _ _ (by simp[r.out]))
 have cf:G.heap[p+1+1]? =W (J #[Z (W ⟨p+1,0,O⟩)] 296 (0,0)):=by rw[o,r.out];exact ah _ _ _ (by simp[r.out])
 have bx:Below w.heap.size w G:=by rw[o];have:=H.out.size;exact((H.out.alloc H.out.size _).alloc (by simp;omega) _).alloc (by simp;omega) _
 have c0:=bk.out.step bx;have b6:TI w p z 0 (RF w.heap.size p) G:=by
  refine⟨rfl,z_ _,?_,?_,?_,⟨_,c4,World.ownsRow_nil _ _ _ _⟩,bx⟩
  ·rw[o];exact aa _ (aa _ (aa _ a3.out))
  ·rw[o];exact aa _ (aa _ (aa _ u.out))
  ·rw[o];exact aa _ (aa _ (aa _ y.out))
 have fr:w.heap.size+3<=p:=by have:=r.out;omega
 obtain⟨c9,M,co,cc,da⟩:=zx5 b6 c5 cm cf c0;have fG:=bk.out.1;clear o b0 e3 c5 c4 cm cf bx b6 c0 a3 u y H r
 go_wp2_with fail
 refine wpIn_wide.1 (aC (n:=5) (gf:=195) (lb:=#[Z (W ⟨p+1+1,0,O⟩)]) rfl (λargs wx=>sh args wx)
  (ei.out (p+1) (p+1+1) (by omega) (by omega) (by omega) G cc.out co.out da.out) (λk e=>by have:=M.out;omega) (λk e=>by have:=M.out;have:=da.out.1;omega) (λt v eg b a=>by obtain⟨⟨x,_,rfl⟩,_⟩:=a;rfl)
  (TI w p z) (λ_ _ _=>False) (RF w.heap.size p) (λk a=>by have:=M.out;unfold RF at a;refine⟨?_,?_,?_,?_,λa=>a.elim⟩<;>omega) c9.out ?hI (λ_ _ _ _ a _=>a) (λ_ _ _ _=>trivial) (λ_ _ _ _=>trivial) ?round ?done (λ_ _ _ a=>a.elim))
 case hI=>
  intro t a4 b e6 a P;obtain rfl:a4=_:=a.1;exact a.far P (λk e=>⟨by have:=M.out;rcases e.2 with a|a<;>omega,e.1⟩)
 case round=>
  rintro t a4 eg v b K dn d3 hI ⟨⟨x,b2,rfl⟩,rfl⟩ a5 b9 S;obtain rfl:a4=_:=hI.1;have cb:=M.out;rw[cb]at d3;obtain⟨l,cl⟩:∃l:ByteArray,(⟨x.s.toArray⟩:ByteArray)=l:=⟨_,rfl⟩;have bb:xR x.s=U l:=by rw[<-cl];rfl
  have c1:tkV x=γ #[V I x.k,U l,V I (x.a:Int)]:=by unfold tkV;rw[bb]
  have be:=jM z t x b2;rw[bb]at be;rw[c1];generalize (x.a:Int)=N at *;generalize x.k=KK at *;clear bb c1 cl b2
  gi_wp2
  refine S _ _ ((ξ _ b).alloc _) ?_;intro f C _ _;rw[cb]at C;have e0:=(hI.far ((ξ xO b).alloc (J #[V I KK,U l,V I N] 305)) (λk e=>e.elim)).far C (λk e=>⟨by omega,λa=>by unfold RF at a;omega⟩);have L:f.heap[b.heap.size]? =W (J #[V I KK,U l,V I N] 305 (0,0)):=C.heap (af b _) (by omega);obtain⟨q,c2⟩:∃q,b.heap.size=q:=⟨_,rfl⟩;rw[c2]at L ⊢;have f6:p+5<=q:=by omega
  obtain⟨_,ex,F,E,A,⟨v,X,D⟩,ac⟩:=e0;have f5:=zF X 0 rfl;have fv:=zF L 0 rfl;have fR:=zF L 1 rfl;have fn:=zF L 2 rfl;have dp:t+1<=maxLen:=by unfold maxLen;omega
  have e9:(t+1) * 32<=140737488355328:=by omega
  have d0:∀(j:Nat) (bn:Value),[Value.int I KK,U l,V I N][j]? =W bn->(f.alloc (Obj.cells #[Value.int I KK,U l,V I N] 305)).cell? ((⟨f.heap.size,0,O⟩:Addr).add j)=W bn:=by
   intro j bn d1;have e2:(⟨f.heap.size,0,O⟩:Addr).add j=⟨f.heap.size,j,O⟩:=by unfold Addr.add;split<;>simp_all
   rw[e2,ae (ah _ _ f.heap.size rfl) j]
   simpa using d1
  have dc:p+5<=(f.alloc (Obj.cells #[Value.int I KK,U l,V I N] 305)).heap.size:=by have:=lt_of_heap L;simp;omega
  obtain⟨u,y,a9,dr,T,df⟩:=zx6 F E A X ac be;clear F E A X ac be hI S C a5 b9 c9 co cc L c2
  gi_wp2_with (gi_at_builtin;refine wpListIn_append_own _ rfl (.tmp 32) (.tmp 34) 216 rfl (p+5) 305 es _ 3 32 underlying216 bm d5 e7 e1 rfl (by decide) v t _ rfl (D.alloc _) ⟨f.heap.size,0,O⟩ 1 1 [V I KK,U l,V I N] rfl rfl d0 (by simp[Value.oneCell']) dp e9 dc ?_;intro f2 w5 bD ch _;obtain⟨g,cap,rfl,f0,f4⟩:=aA bD;have ca:=D.lt;have C:Far (λk=>p+5<=k) f w5:=((ξ _ f).alloc _).grown ch (λk e _=>(ca k e).1);have m:=C.heap dr.out (by omega);have f8:w5.cell? ⟨p,0,O⟩=W v:=ae m 0;have f7:w5.frozen? ⟨p,0,O⟩=false:=ag m 0;have e4:=zD m;have e8:=zD bD;clear m bD ch ca)
  have b4:Far (λk=>k=p) w5 (w5.setCell ⟨p,0,O⟩ (Y (W ⟨g,0,O⟩) (t+1) cap)):=(ξ (λk=>k=p) w5).setCell (p:=⟨p,0,O⟩) (λ_=>rfl) _;have al:Far (λk=>k=p\/p+5<=k) f (w5.setCell ⟨p,0,O⟩ (Y (W ⟨g,0,O⟩) (t+1) cap)):=(C.mono (λ_ _ e=>.inr e)).trans (b4.mono (λ_ _ e=>.inl e));refine⟨_,⟨rfl,dn,al.heap u.out (by omega),al.heap y.out (by omega),al.heap a9.out (by omega),⟨_,ai e4.out 0 _,?_⟩,T.out.trans (al.to_below T.out.size (by intro i a1 an;omega))⟩,al.mono (λk _ e=>by unfold RF;omega),λk a=>⟨.inl a,λa=>a.elim⟩⟩;rw[df.out];exact aw e8.out b4 (by intro k a1 _ an;omega)
 case done=>
  rintro a4 b ⟨_,ex,F,E,A,⟨v,X,D⟩,ac⟩ _ S b9;rw[M.out]at S ⊢;rw[List.take_length]at D;obtain⟨c,d,cap,rfl⟩:∃c d cap,v=Y c d cap:=by
   rcases D.2 with ⟨bs,_⟩|⟨g,cap,ft,bs,_⟩
   ·exact⟨_,_,_,bs⟩
   ·exact⟨_,_,_,bs⟩
  have cv:=zF F 0 rfl;have b8:=zF E 0 rfl;have b1:=zF A 0 rfl;have c3:=zF X 0 rfl;have fz:=ag F 0;have f1:=ag E 0;have f3:=ag A 0;obtain⟨u,y,a9,d4,T,er⟩:=zx6 F E A D ac S;clear F E A X D ac S
  go_wp2_with fail
  have P:Far (λk=>k=w.heap.size\/k=w.heap.size+1\/k=w.heap.size+1+1) b (((b.setCell ⟨w.heap.size,0,O⟩ (Y c d cap)).setCell ⟨w.heap.size+1,0,O⟩ (V I 0)).setCell ⟨w.heap.size+1+1,0,O⟩ (V I 0)):=
   (((ξ _ b).setCell (λ_=>.inl rfl) _).setCell (λ_=>.inr (.inl rfl)) _).setCell (λ_=>.inr (.inr rfl)) _
  have d2:=(Below.heap_setCell ((b.setCell ⟨w.heap.size,0,O⟩ (Y c d cap)).setCell ⟨w.heap.size+1,0,O⟩ (V I 0)) ⟨w.heap.size+1+1,0,O⟩ (V I 0) w.heap.size (by show w.heap.size≠w.heap.size+1+1;omega)).trans ((Below.heap_setCell (b.setCell ⟨w.heap.size,0,O⟩ (Y c d cap)) ⟨w.heap.size+1,0,O⟩ (V I 0) w.heap.size (by show w.heap.size≠w.heap.size+1;omega)).trans (ai u.out 0 (Y c d cap)));have e5:=(Below.heap_setCell ((b.setCell ⟨w.heap.size,0,O⟩ (Y c d cap)).setCell ⟨w.heap.size+1,0,O⟩ (V I 0)) ⟨w.heap.size+1+1,0,O⟩ (V I 0) (w.heap.size+1) (by show w.heap.size+1≠w.heap.size+1+1;omega)).trans (ai ((Below.heap_setCell b ⟨w.heap.size,0,O⟩ (Y c d cap) (w.heap.size+1) (by show w.heap.size+1≠w.heap.size;omega)).trans y.out) 0 (V I 0));have dv:=ai ((Below.heap_setCell (b.setCell ⟨w.heap.size,0,O⟩ (Y c d cap)) ⟨w.heap.size+1,0,O⟩ (V I 0) (w.heap.size+1+1) (by show w.heap.size+1+1≠w.heap.size+1;omega)).trans ((Below.heap_setCell b ⟨w.heap.size,0,O⟩ (Y c d cap) (w.heap.size+1+1) (by show w.heap.size+1+1≠w.heap.size;omega)).trans a9.out)) 0 (V I 0);refine au (q:=p+3) rfl (P.heap er.out (by omega)) ?_;intro e6 ab;have cv:=zF (ab.heap d2 (by omega)) 0 rfl;have b8:=zF (ab.heap e5 (by omega)) 0 rfl;have b1:=zF (ab.heap dv (by omega)) 0 rfl;refine⟨.tuple #[Y c d cap,V I 0,V I 0],by simp[results,results105,go_sem,cv,b8,b1],⟨_,rfl,?_⟩,(T.out.trans (P.to_below T.out.size (by intro i bm a;omega))).trans (ab.to_below (Nat.le_trans T.out.size P.size) (by intro i bm a;omega))⟩;exact aW (aw (aw d4.out P (by intro k a1 an a;omega)) ab (by intro k a1 an a;omega)) (by omega)
end
end Go.Proofs.YtbikgdhbiebhcaaGreatDoor
