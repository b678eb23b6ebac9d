/- A list of texts that came in, opened. -/
import Derived.Test.YtbikgdhbiebhcaaGreatDoorCk7
import Derived.Test.YtbikgdhbiebhcaaGreatDoorV14
import Derived.ChangeSlices
import Derived.Deep.SlicePairs
set_option linter.unusedVariables false
set_option linter.unusedSimpArgs false
set_option maxRecDepth 100000
set_option maxHeartbeats 2000000
namespace Go.Proofs.YtbikgdhbiebhcaaGreatDoor
open Go.ChangeShapes Go.WideShapes Go.ChangeAt Go.RowKit
theorem typesN:Tryz.prog.types.size=553:=by kernel_rfl
theorem add_plain' (b o i:Nat):(⟨b,o,none⟩:Addr).add i=⟨b,o+i,none⟩:=by unfold Addr.add;simp
theorem choose_list {α:Type} (n:Nat) (p:Nat->α->Prop) (h:∀i,i < n->∃x,p i x):∃l:List α,l.length=n/\∀i x,l[i]? =some x->p i x:=by
  induction n with
  | zero=>exact⟨[],rfl,λi x hx=>by simp at hx⟩
  | succ n ih=>
    obtain⟨l,hl,hp⟩:=ih λi hi=>h i (by omega)
    obtain⟨y,hy⟩:=h n (by omega)
    refine⟨l++[y],by simp[hl],λi x hx=>?_⟩
    by_cases hi:i < l.length
    · rw[List.getElem?_append_left hi]at hx
      exact hp i x hx
    · rw[List.getElem?_append_right (by omega)]at hx
      have:i - l.length=0:=by
        by_cases h0:i - l.length=0
        · exact h0
        · rw[List.getElem?_eq_none (by simp;omega)]at hx;simp at hx
      rw[this]at hx
      simp only[List.getElem?_cons_zero,Option.some.injEq]at hx
      subst hx
      have:i=n:=by omega
      rw[this]
      exact hy
theorem cell_lt {w:World} {b i:Nat} {v:Value} (h:w.cell? ⟨b,i,none⟩=some v):b < w.heap.size:=by
  by_cases hb:b < w.heap.size
  · exact hb
  · have hn:w.heap[b]? =none:=Array.getElem?_eq_none (by omega)
    simp[World.cell?,hn]at h
theorem fld:∀j,j < 3->((Tryz.prog.fieldsOf 30)[j]?).map (λf=>(f.offset,f.type))=some (j,if j=2 then 9 else 3)
  | 0,_=>by kernel_rfl
  | 1,_=>by kernel_rfl
  | 2,_=>by kernel_rfl
  | n+3,h=>absurd h (by omega)
theorem cells30:Tryz.prog.cellsOf 30=3:=by kernel_rfl
theorem cells3:Tryz.prog.cellsOf 3=1:=by kernel_rfl
theorem under30k:Tryz.prog.underlying 30=some (.struct (Tryz.prog.fieldsOf 30)):=by kernel_rfl
theorem open_scalars {H : Type} {enc : TypeId × Value → H} {W : World} {base : Nat} {held : Bool} {fuel : Nat} {a : Option Addr} {len cap : Nat} {x : DataW H × List MemPlace}
    (hf:DataW.trod enc Tryz.prog W base (λ_=>true) held fuel 28 (Value.cells (.slice a len cap)).toList=some x):
    ∃l:List Tp.Sc,(l.length=len/\len<=maxLen)/\(∀y∈l,y.s.length<=maxLen/\(Lit.int .i64 y.k).wf=true/\(Lit.int .i64 y.n).wf=true)/\∃g o,RA W a g o (xV l):=by
  rcases Go.Deep.open_slice Tryz.underlying28 hf with ⟨hcs,_⟩ | ⟨ad,len',cap',m,n,D,Pl,hcs,hb,hl,hm,hmm,rfl,hx⟩
  · simp[Value.cells]at hcs
    obtain⟨rfl,rfl,rfl⟩:=hcs
    exact⟨[],⟨rfl,Nat.zero_le _⟩,λy hy=>by simp at hy,0,0,λh=>absurd rfl h⟩
  · simp[Value.cells]at hcs
    obtain⟨rfl,rfl,rfl⟩:=hcs
    simp only[if_true]at hmm
    have each:∀i,i < len->∃y:Tp.Sc,(W.cell? (ad.add (i * 3))=some (.int .i64 y.k)/\W.cell? (ad.add (i * 3+1))=some (.int .i64 y.n)/\W.cell? (ad.add (i * 3+2))=some (xR y.s))/\y.s.length<=maxLen/\(Lit.int .i64 y.k).wf=true/\(Lit.int .i64 y.n).wf=true:=by
      intro i hi
      obtain⟨cs',h1,h2⟩:=hx i (by omega)
      rw[cells30]at h1
      obtain⟨_,hlen,hcell⟩:=World.cells?_some h1
      obtain⟨xs,k,hk,hxy,_,hxl,hfl⟩:=DataW.trod_struct under30k h2
      obtain⟨f0,g0,p0⟩:=Option.map_eq_some_iff.1 (fld 0 (by omega))
      obtain⟨f1,g1,p1⟩:=Option.map_eq_some_iff.1 (fld 1 (by omega))
      obtain⟨f2,g2,p2⟩:=Option.map_eq_some_iff.1 (fld 2 (by omega))
      have q0:=hfl 0 f0 g0
      have q1:=hfl 1 f1 g1
      have q2:=hfl 2 f2 g2
      simp only[Prod.mk.injEq]at p0 p1 p2
      obtain⟨o0,t0⟩:=p0
      obtain⟨o1,t1⟩:=p1
      obtain⟨o2,t2⟩:=p2
      have hs:2 < (Tryz.prog.fieldsOf 30).size:=(Array.getElem?_eq_some_iff.1 g2).1
      obtain⟨y0,hy0⟩:∃y,xs[0]? =some y:=⟨_,List.getElem?_eq_getElem (by omega)⟩
      obtain⟨y1,hy1⟩:∃y,xs[1]? =some y:=⟨_,List.getElem?_eq_getElem (by omega)⟩
      obtain⟨y2,hy2⟩:∃y,xs[2]? =some y:=⟨_,List.getElem?_eq_getElem (by omega)⟩
      rw[o0,t0,hy0]at q0
      rw[o1,t1,hy1]at q1
      rw[o2,t2,hy2]at q2
      match cs',hlen with
      | [v0,v1,v2],_=>
        simp only[show ¬(0:Nat)=2 by decide,show ¬(1:Nat)=2 by decide,if_false,if_true,cells3,cellsS,List.drop_zero,List.drop_succ_cons,List.take_succ_cons,List.take_zero]at q0 q1 q2
        obtain⟨z0,u0,_,w0⟩:=DataW.trod_int Tryz.underlying3 q0
        obtain⟨z1,u1,_,w1⟩:=DataW.trod_int Tryz.underlying3 q1
        obtain⟨s2,u2,_,w2⟩:=DataW.trod_string Tryz.underlying9 q2
        obtain rfl:=(List.cons.inj u0).1
        obtain rfl:=(List.cons.inj u1).1
        obtain rfl:=(List.cons.inj u2).1
        have e0:=hcell 0 (by omega)
        have e1:=hcell 1 (by omega)
        have e2:=hcell 2 (by omega)
        rw[Go.Deep.add_add]at e0 e1 e2
        have hs2:xR s2.data.toList=.string s2:=by unfold xR;rw[Array.toArray_toList]
        refine⟨⟨z0,z1,s2.data.toList⟩,⟨by simpa using e0,by simpa using e1,?_⟩,?_,w0,w1⟩
        · rw[hs2];simpa using e2
        · show s2.data.toList.length<=_
          rw[Array.length_toList];exact w2
    obtain⟨l,hll,hp⟩:=choose_list len _ each
    obtain⟨b,off,spot⟩:=ad
    refine⟨l,⟨hll,Nat.le_trans hl hm⟩,λy hy=>?_,b,off,λhne=>?_⟩
    · obtain⟨i,hi⟩:=List.mem_iff_getElem?.1 hy
      exact(hp i y hi).2
    · obtain⟨y,ys,rfl⟩:∃y ys,l=y::ys:=by
        cases l with
        | nil=>exact absurd rfl hne
        | cons y ys=>exact⟨_,_,rfl⟩
      have h0:=(hp 0 y rfl).1.1
      have hspot:spot=none:=by simpa [Addr.add]using World.cell?_spot h0
      subst hspot
      rw[add_plain']at h0
      refine⟨rfl,cell_lt h0,λi v hv=>?_⟩
      have hil:i / 3 < (y::ys).length:=by
        have h1:=(List.getElem?_eq_some_iff.1 hv).1
        have h2:=CR (y::ys)
        rw[CS]at h2
        omega
      obtain⟨x,hx⟩:∃x,(y::ys)[i / 3]? =some x:=⟨_,List.getElem?_eq_getElem hil⟩
      obtain⟨⟨c0,c1,c2⟩,_⟩:=hp _ x hx
      obtain⟨q0,q1,q2⟩:=gX (y::ys) _ x hx
      rw[add_plain']at c0 c1 c2
      have hi3:i=i / 3 * 3\/i=i / 3 * 3+1\/i=i / 3 * 3+2:=by omega
      rcases hi3 with h | h | h
      · rw[<-h]at q0 c0
        rw[hv]at q0
        injection q0 with q0
        rw[q0];exact c0
      · rw[<-h]at q1 c1
        rw[hv]at q1
        injection q1 with q1
        rw[q1];exact c1
      · rw[<-h]at q2 c2
        rw[hv]at q2
        injection q2 with q2
        rw[q2];exact c2
end Go.Proofs.YtbikgdhbiebhcaaGreatDoor
