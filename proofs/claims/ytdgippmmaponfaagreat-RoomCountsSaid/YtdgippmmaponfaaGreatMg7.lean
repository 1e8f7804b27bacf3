/- Contracts of the functions that the law reaches, and plain laws; no conditions but those written at each. -/
import Derived.Test.YtdgippmmaponfaaGreatMg6
import Derived.Deep.AppendLies
import Derived.Shelf.RegionOpenPlain
import Derived.Deep.RegionLaw
import Derived.Laws.IdiomCopy
import Derived.Lib.AppendZeros
import Derived.Lib.AppendZerosOnto
import Derived.Lib.Overlaps
namespace Go.Proofs.YtdgippmmaponfaaGreat
open Go.Value renaming bool->μ,slice->δ,pointer->π,agg->θ
open Go.IntKind renaming i64->ι,u8->υ,u16->φ,u32->ω,i32->χ,u64->ψ
open _root_.Go.Proofs.Tryz
set_option linter.unusedSimpArgs false
set_option maxHeartbeats 8000000
set_option linter.unusedVariables false
open Go.RowKit
set_option maxRecDepth 100000
theorem Ya (n:Int) (w:World):
  Calls prog 209 #[ι n] w λe w'=>e= .returned (θ #[ι n,ψ 1])/\qa w w':=by
 go_enter func209,ntmps209
 go_wp2;exact bodyPost_ret (v:= θ #[ι n,ψ 1]) (by simp[results,results209,go_sem]) rfl ⟨rfl,(qa.refl _).al _⟩
theorem CJ (g b n:Int) (H: -2305843009213693952<=g/\g<=2305843009213693952) (G: -2305843009213693952<=n/\n<=2305843009213693952) (J:63<n-g) (w:World):
  Calls prog 208 #[θ #[ι g,ψ b],ι n] w λe w'=>e= .returned (θ #[ι n,ψ 1])/\qa w w':=by
 obtain⟨O,U⟩:=H;obtain⟨N,n2⟩:=G
 go_enter func208,ntmps208
 go_wp2_with (go_at_call 209;refine(Ya n _).mono ?_;rintro e w1 ⟨rfl,d⟩;obtain⟨I,M⟩:=d.rules)
 refine bodyPost_ret (v:= θ #[ι n,ψ 1]) (by simp[results,results208,go_sem,I]) rfl ⟨rfl, ?_⟩;exact((((qa.refl w).al _).al _ |>.trans d).st η _).st η _
theorem FQ (g b n:Int) (G: -2305843009213693952<=g/\g<=2305843009213693952) (d: -2305843009213693952<=n/\n<=2305843009213693952) (H:n-g<=63) (N:0<n-g) (w:World):
  Calls prog 208 #[θ #[ι g,ψ b],ι n] w λe w'=>e= .returned (θ #[ι n,ψ (bits .or .u64 (IntKind.u64.wrap (b* 2 ^ (n-g).toNat)) 1)])/\qa w w':=by
 obtain⟨M,I⟩:=G;obtain⟨J,n2⟩:=d
 go_enter func208,ntmps208
 go_wp2;refine bodyPost_ret (v:= θ #[ι n,ψ (bits .or .u64 (IntKind.u64.wrap (b* 2 ^ (n-g).toNat)) 1)]) (by simp[results,results208,go_sem]) rfl ⟨rfl, ?_⟩;exact((qa.refl w).al _).al _
theorem CI (g b n:Int) (G: -2305843009213693952<=g/\g<=2305843009213693952) (d: -2305843009213693952<=n/\n<=2305843009213693952) (H:n-g< -63) (w:World):
  Calls prog 208 #[θ #[ι g,ψ b],ι n] w λe w'=>e= .returned (θ #[ι g,ψ b])/\qa w w':=by
 obtain⟨J,M⟩:=G;obtain⟨I,n2⟩:=d
 go_enter func208,ntmps208
 go_wp2;refine bodyPost_ret (v:= θ #[ι g,ψ b]) (by simp[results,results208,go_sem]) rfl ⟨rfl, ?_⟩;exact((qa.refl w).al _).al _
theorem FR (g b n:Int) (I: -2305843009213693952<=g/\g<=2305843009213693952) (H: -2305843009213693952<=n/\n<=2305843009213693952) (G:U64 b) (M:n-g<=0) (aa: -63<=n-g) (w:World):
  Calls prog 208 #[θ #[ι g,ψ b],ι n] w λe w'=>e= .returned (θ #[ι g,ψ (lay b (-(n-g)) 1 1)])/\qa w w':=by
 obtain⟨Y,ac⟩:=I;obtain⟨O,n2⟩:=H;have J:=κ G;clear G;have U: ∀x:qt (w.alloc (.cells #[ι g,ψ b] 192)),x.w'.cell? ⟨w.heap.size,0,none⟩=some (ι g):=λx=>x.new 0 rfl
 have N: ∀x:qt (w.alloc (.cells #[ι g,ψ b] 192)),x.w'.cell? ⟨w.heap.size,1,none⟩=some (ψ b):=λx=>x.new 1 rfl
 go_enter func208,ntmps208
 go_wp2_with fail
 refine Qn (w.alloc (.cells #[ι g,ψ b] 192)) 8 9 [6,8] ?_
 refine Qq ?_
 (refine Ql ?_;intro K d)
 refine(FV b 1 _ _ J.o ζ (by unfold I64;omega) ζ _).mono ?_;rintro e w2 ⟨rfl,ab,rfl⟩;refine⟨_,rfl,qk (((qa.alloc _ _).dr _).dr _),d _ _ ?_⟩;clear d K
 refine Qq ?_
 (refine Qe ?_;intro K d)
 refine d _ _ ?_;clear d K;refine qA ?_;go_wp2;refine bodyPost_ret (v:= θ #[ι g,ψ (lay b (-(n-g)) 1 1)]) (by simp[results,results208,go_sem]) rfl ⟨rfl, ?_⟩;exact(((((qa.refl w).al _).al _).dr _).st η _).st η _
def Mid (n:Int):Prop:= -2305843009213693952<=n/\n<=2305843009213693952
instance (n:Int):Decidable (Mid n):=by unfold Mid;infer_instance
theorem gS (g b n:Int) (G:Mid g) (d:Mid n) (H:U64 b) (w:World):
  Calls prog 208 #[θ #[ι g,ψ b],ι n] w λe w'=>e= .returned (θ #[ι (zt g b n).1,ψ (zt g b n).2])/\qa w w':=by
 by_cases h1:63<n-g
 ·rw[show zt g b n=(n,1) from by unfold zt;rw[if_pos h1]];exact CJ g b n G d h1 w
 ·by_cases h2:0<n-g
  ·rw[show zt g b n=(n,bits .or .u64 (IntKind.u64.wrap (b* 2 ^ (n-g).toNat)) 1) from by unfold zt;rw[if_neg h1,if_pos h2]];exact FQ g b n G d τ h2 w
  ·by_cases h3: -63<=n-g
   ·rw[show zt g b n=(g,lay b (-(n-g)) 1 1) from by unfold zt;rw[if_neg h1,if_neg h2,if_pos h3]];exact FR g b n G d H τ h3 w
   ·rw[show zt g b n=(g,b) from by unfold zt;rw[if_neg h1,if_neg h2,if_neg h3]];exact CI g b n G d τ w
theorem FX (g b n:Int) (Y:Mid g) (U:Mid n) (I:U64 b) (w:World):
  Calls prog 219 #[θ #[ι g,ψ b],ι n] w λe w'=>e= .returned (μ (yi g b n))/\qa w w':=by
 have J:=κ I;have N:=κ Y;have O:=κ U;have M:U64 b:=I;clear I;obtain⟨ae,ag⟩:=Y;obtain⟨ac,n2⟩:=U;have ad: ∀x:qt (w.alloc (.cells #[ι g,ψ b] 192)),x.w'.cell? ⟨w.heap.size,0,none⟩=some (ι g):=λx=>x.new 0 rfl
 have ab: ∀x:qt (w.alloc (.cells #[ι g,ψ b] 192)),x.w'.cell? ⟨w.heap.size,1,none⟩=some (ψ b):=λx=>x.new 1 rfl
 have af:=Gx;by_cases hlt:g-63<=n
 ·have H:=IC g b n M hlt;clear M;by_cases e1:(zt g b n).1=g
  ·by_cases e2:(zt g b n).2=b
   ·have G:=κ (show true=yi g b n by rw[<-H];simp[e1,e2]);clear H
    go_enter func219,ntmps219
    go_wp2;refine qD (w.alloc (.cells #[ι g,ψ b] 192)) (qa.refl _) ξ ξ ?_
    repeat (go_big_quiet_step ((go_at_call 208;exact j6 (gS g b n N.o O.o J.o _))))
    refine wpQuiet_nil ?_;intro _ d;obtain⟨x,rfl⟩:=d;go_wp2;go_ret;exact⟨qZ G.o,(qa.alloc _ _).trans x.h⟩
   ·have G:=κ (show false=yi g b n by rw[<-H];simp[e2]);clear H
    go_enter func219,ntmps219
    go_wp2;refine qD (w.alloc (.cells #[ι g,ψ b] 192)) (qa.refl _) ξ ξ ?_
    repeat (go_big_quiet_step ((go_at_call 208;exact j6 (gS g b n N.o O.o J.o _))))
    refine wpQuiet_nil ?_;intro _ d;obtain⟨x,rfl⟩:=d;go_wp2;go_ret;exact⟨qZ G.o,(qa.alloc _ _).trans x.h⟩
  ·have G:=κ (show false=yi g b n by rw[<-H];simp[e1]);clear H
   go_enter func219,ntmps219
   go_wp2;refine qD (w.alloc (.cells #[ι g,ψ b] 192)) (qa.refl _) ξ ξ ?_
   repeat (go_big_quiet_step ((go_at_call 208;exact j6 (gS g b n N.o O.o J.o _))))
   refine wpQuiet_nil ?_;intro _ d;obtain⟨x,rfl⟩:=d;go_wp2;go_ret;exact⟨qZ G.o,(qa.alloc _ _).trans x.h⟩
 ·have G:=κ (show false=yi g b n by unfold yi;simp[show ¬(n<=g/\g-n<=63) by omega]);clear M;have aa:decide (g-63<=n)=false:=by simp;omega
  clear hlt
  go_enter func219,ntmps219
  go_wp2;refine qD (w.alloc (.cells #[ι g,ψ b] 192)) (qa.refl _) ξ ξ ?_
  repeat (go_big_quiet_step (fail))
  refine wpQuiet_nil ?_;intro _ d;obtain⟨x,rfl⟩:=d;go_wp2;go_ret;exact⟨qZ G.o,(qa.alloc _ _).trans x.h⟩
abbrev Hd:=Int×Int×Int
def hd1 (h:Hd):List Value:=[.int .i64 h.1,.int .i64 h.2.1,.int .i64 h.2.2]
def hdC (l:List Hd):List Value:=l.flatMap hd1
theorem gP (h:Hd) (l:List Hd):hdC (h::l)=hd1 h++hdC l:=rfl
theorem uT (k l:List Hd):hdC (k++l)=hdC k++hdC l:=by simp[hdC]
theorem yu (l:List Hd):(hdC l).length=l.length* 3:=by
 induction l with
 | nil=>rfl
 | cons p l ih=>rw[gP,List.length_append,ih,List.length_cons];simp[hd1];omega
theorem Ac: ∀(l:List Hd) (i:Nat),i<l.length->(hdC l)[i* 3]? =some (ι (l.getD i (0,0,0)).1)/\(hdC l)[i* 3+1]? =some (ι (l.getD i (0,0,0)).2.1)/\(hdC l)[i* 3+2]? =some (ι (l.getD i (0,0,0)).2.2)
 | [],_,h=>absurd h η
 | h::l,0,_=>⟨rfl,rfl,rfl⟩
 | h::l,i+1,hi=>by
  have d:=Ac l i (by simpa using hi);have e: ∀c,(hdC (h::l))[(i+1)* 3+c]? =(hdC l)[i* 3+c]? :=by
   intro c;rw[gP,List.getElem?_append_right (by simp[hd1];omega)]
   congr 1
   simp[hd1];omega
  have e0:=e 0;rw[Nat.add_zero,Nat.add_zero] at e0;rw[e0,e 1,e 2];exact d
theorem YE (l:List Hd): ∀u∈hdC l,u.oneCell'=true:=by
 intro u d;obtain⟨h,_,d⟩:=List.mem_flatMap.1 d;simp[hd1] at d;rcases d with rfl | rfl | rfl<;>rfl
def zT (w:World) (base:Nat) (v:Value) (L:List Hd):Prop:=w.ownsRow base 282 3 v L.length (hdC L)
theorem zT.more {w w':World} {base:Nat} {v:Value} {L:List Hd} (h:zT w base v L) (m:qa w w'):zT w' base v L:=jE h m
theorem zT.shape {w:World} {base:Nat} {v:Value} {L:List Hd} (h:zT w base v L): ∃oa cap,v= δ oa L.length cap/\(L.length:Int)<=9223372036854775807:=by
 rcases h.2 with ⟨rfl,G⟩ | ⟨g,cap,cur,rfl,_,_,H,d,_⟩
 ·exact⟨none,0,by rw[G],τ⟩
 ·exact⟨_,cap,rfl,by unfold maxLen at d;omega⟩
theorem zT.cell {w:World} {base:Nat} {v:Value} {L:List Hd} (h:zT w base v L) (i:Nat) (hi:i<L.length):
  ∃g cap,v= δ (some ⟨g,0,none⟩) L.length cap/\base<=g/\g<w.heap.size/\ ∀x,qa w x->x.cell? ⟨g,i* 3,none⟩=some (ι (L.getD i (0,0,0)).1)/\x.cell? ⟨g,i* 3+1,none⟩=some (ι (L.getD i (0,0,0)).2.1)/\x.cell? ⟨g,i* 3+2,none⟩=some (ι (L.getD i (0,0,0)).2.2):=by
 rcases h.2 with ⟨rfl,N⟩ | ⟨g,cap,cur,rfl,H,d,O,U,Y,I⟩
 ·omega
 ·refine⟨g,cap,rfl,H,lt_of_block d,λx m=> ?_⟩;obtain⟨a0,M,G⟩:=Ac L i hi;have key: ∀j,j<L.length* 3->x.cell? ⟨g,j,none⟩=(hdC L)[j]? :=by
   intro j J;rw[m.cells g j (lt_of_block d),cell_of_row w g _ cur _ (0,0) d,<-I,List.getElem?_take,if_pos J];simp
  exact⟨by rw[key _ τ];exact a0,by rw[key _ τ];exact M,by rw[key _ τ];exact G⟩
def Jk (p:Hd->Bool) (L:List Hd):Int:=if L.findIdx p<L.length then (L.findIdx p:Int) else -1
theorem Cf {p:Hd->Bool} {L:List Hd} {k:Nat} (d:k<L.length) (h:p (L.getD k (0,0,0))=true) (H: ∀j,j<k->p (L.getD j (0,0,0))=false):Jk p L=k:=by
 have e:L.findIdx p=k:=by
  rw[List.findIdx_eq d];rw[List.getD_eq_getElem?_getD,List.getElem?_eq_getElem d,Option.getD_some] at h;refine⟨h,λj G=> ?_⟩;have:=H j G
  rwa [List.getD_eq_getElem?_getD,List.getElem?_eq_getElem τ,Option.getD_some] at this
 unfold Jk;rw[e,if_pos d]
theorem PF {p:Hd->Bool} {L:List Hd} (H: ∀j,j<L.length->p (L.getD j (0,0,0))=false):Jk p L= -1:=by
 have e:L.findIdx p=L.length:=by
  rw[List.findIdx_eq_length];intro x G;obtain⟨j,d,rfl⟩:=List.mem_iff_getElem.1 G;have:=H j d
  rwa [List.getD_eq_getElem?_getD,List.getElem?_eq_getElem d,Option.getD_some] at this
 unfold Jk;rw[e,if_neg (Nat.lt_irrefl _)]
theorem Cg (p:Hd->Bool) (L:List Hd):decide (0<=Jk p L)=L.any p:=by
 unfold Jk;by_cases h:L.findIdx p<L.length
 ·rw[if_pos h,decide_eq_true τ];exact(List.any_eq_true.2 ⟨L[L.findIdx p],List.getElem_mem _,List.findIdx_getElem⟩).symm
 ·rw[if_neg h];have e:L.any p=false:=by
   rw[List.any_eq_false];intro x G d;exact h (List.findIdx_lt_length_of_exists ⟨x,G,d⟩)
  rw[e];rfl
def ZA (g:Nat) (lb:Array Value) (p:Hd->Bool) (L:List Hd) (w:World):Prop:=
 ∀(W:World) (x:Hd),x∈L->qa w W->Calls Tryz.prog g (#[.agg #[.int .i64 x.1,.int .i64 x.2.1,.int .i64 x.2.2]]++lb) W λe w'=>e= .returned (.bool (p x))/\qa W w'
theorem wJ (g:Nat) (lb:Array Value) (p:Hd->Bool) (aa: ∀args w,(callFunc g args).run prog w= .ok (.enter g args) w) (L:List Hd) (v:Value) (base:Nat) (w:World) (row:zT w base v L) (ae:ZA g lb p L w):
  Calls prog 189 #[v,.func (.func g) #[] lb] w λe w'=>e= .returned (ι (Jk p L))/\qa w w':=by
 have af:=κ row;have ag:=κ ae;obtain⟨an,cap,rfl,ap⟩:=row.shape;clear row ae
 go_enter func189,ntmps189
 go_wp2
 go_loopw [5,8] (λ_ M wr=> ∃k:Nat,k<=L.length/\M= ι k/\(∀j,j<k->p (L.getD j (0,0,0))=false)/\qa w wr) (λ_ M _=>L.length-(intOf M).toNat)
 case atStart=>exact⟨0,τ,rfl,λj ad=>absurd ad (Nat.not_lt_zero _),qa.refl _⟩
 case round=>
  obtain⟨k,ao,rfl,ab,I⟩:=hrel;have J:=κ ab;have Y:=κ I;clear ab;by_cases hlt:k<L.length
  ·have ah:(k:Int)<(L.length:Int):=by omega
   obtain⟨b,c,e,_,am,ac⟩:=af.o.cell k hlt;cases e;obtain⟨ak,c1,c2⟩:=ac wr I;have d:=ag.o wr (L.getD k (0,0,0)) (by rw[List.getD_eq_getElem?_getD,List.getElem?_eq_getElem hlt];exact List.getElem_mem hlt) I;have U:Hid (p (L.getD k (0,0,0))=true->Jk p L=k):=κ λh=>Cf hlt h J.o
   have O:Hid (p (L.getD k (0,0,0))=false-> ∀j,j<k+1->p (L.getD j (0,0,0))=false):=κ λh j ad=>by
    by_cases e:j=k
    ·subst e;exact h
    ·exact J.o j τ
   clear ac I J;generalize L.getD k (0,0,0)=y at *;obtain⟨al,aj,ai⟩:=y;simp only at ak c1 c2 d;cases hq:p (al,aj,ai) with
   | true=>
    rw[hq] at d;have H:=κ (U.o hq);clear U O hq
    go_wp2_with (refine d.mono ?_;rintro e w' ⟨rfl,G⟩;have N:=κ G;clear G d aa)
    go_ret;exact⟨by rw[H.o];rfl,Y.o.trans N.o⟩
   | false=>
    rw[hq] at d;have H:=κ (O.o hq);clear U O hq
    go_wp2_with (refine d.mono ?_;rintro e w' ⟨rfl,G⟩;have N:=κ G;clear G d aa)
    go_roundw
    case rel=>exact⟨k+1,τ,by go_num,H.o,Y.o.trans N.o⟩
    case measure=>simp[intOf];omega
  ·obtain rfl:k=L.length:=by omega
   have H:=κ (PF J.o);have ah: ¬(L.length:Int)<(L.length:Int):=by omega
   go_wp2;go_ret;exact⟨by rw[H.o];rfl,Y.o⟩
theorem xt (g:Nat) (lb:Array Value) (p:Hd->Bool) (H: ∀args w,(callFunc g args).run prog w= .ok (.enter g args) w) (L:List Hd) (v:Value) (base:Nat) (w:World) (row:zT w base v L) (d:ZA g lb p L w):
  Calls prog 150 #[v,.func (.func g) #[] lb] w λe w'=>e= .returned (μ (L.any p))/\qa w w':=by
 have G:=κ row;have J:=κ d;obtain⟨M,cap,rfl,N⟩:=row.shape;rw[<-Cg];clear row d
 go_enter func150,ntmps150
 go_wp2_with (go_at_call 189;((with_reducible refine(wJ g lb p H L _ base _ G.o J.o).mono ?_);rintro e w1 ⟨rfl,I⟩))
 go_ret;exact⟨rfl,I⟩
def xO (cur:List Value) (o:Nat) (vs:List Value):List Value:=cur.take o++vs++cur.drop (o+vs.length)
theorem ut {cur d:List Value} {o:Nat} (h:o+d.length<=cur.length):(xO cur o d).length=cur.length:=by
 unfold xO;rw[List.length_append,List.length_append,List.length_take,List.length_drop];omega
theorem jM {w:World} {g e:Nat} {cur:Array Value} (h:w.heap[g]? =some (.cells cur e (0,0))) (cs:Array Value):(w.setRow g cs).heap[g]? =some (.cells cs e (0,0)):=setRow_heap w g cur cs e (0,0) h
theorem qg.setRow (w:World) (g:Nat) (cs:Array Value):qg (λk=>k=g) w (w.setRow g cs):=by
 refine⟨rfl,rfl,rfl,by simp[World.setRow],λb G d=> ?_⟩;unfold World.setRow;simp only;rw[Array.getElem?_modify,if_neg (λe=>d e.symm)]
section
variable {P:Program}
theorem yN (w:World) (t N e:TypeId) (i:TypeInfo) (Y:P.underlying t=some (.slice e)) (hi:P.info? e=some i) (g o G M:Nat) (cur:Array Value) (U:w.heap[g]? =some (.cells cur e (0,0)))
  (a:Addr) (d I:Nat) (cs:List Value) (O:cs.length=Nat.min d G* i.size) (aa: ∀j v,cs[j]? =some v->w.cell? (a.add j)=some v) (ac:o+cs.length<=cur.size) (ab: ∀v∈cs,v.oneCell'=true):
  (Builtin.copy_ #[t,t] N #[δ (some ⟨g,o,none⟩) G M,δ (some a) d I]).run P w= .ok (goInt (Nat.min d G)) (w.setRow g (xO cur.toList o cs).toArray):=by
 have J:=run_firstCells_some (P:=P) (w:=w) i.size (Nat.min d G) a d I cs O aa;have H:=run_storeCells_at P g o e cs 0 cur w U (by simpa using ac) ab;simp only[Nat.add_zero] at H;unfold xO;simp[Builtin.copy_,run_underlying Y,Builtin.lenOf,sizeOf,typeInfo,hi,J,H]
theorem Zi (w:World) (t G e:TypeId) (z:Value) (J:P.underlying t=some (.slice e)) (H:(zeroValue e).run P w= .ok z w) (g o n c:Nat) (O:0<n) (cur:Array Value) (I:w.heap[g]? =some (.cells cur e (0,0)))
  (N:o+(Builtin.zeroCells z.cells n).toList.length<=cur.size) (M: ∀v∈(Builtin.zeroCells z.cells n).toList,v.oneCell'=true):
  (Builtin.clear_ #[t] G #[δ (some ⟨g,o,none⟩) n c]).run P w= .ok (.tuple #[]) (w.setRow g (xO cur.toList o (Builtin.zeroCells z.cells n).toList).toArray):=by
 have d:=run_storeCells_at P g o e (Builtin.zeroCells z.cells n).toList 0 cur w I (by simpa using N) M;simp only[Nat.add_zero] at d;obtain⟨m,rfl⟩: ∃m,n=m+1:=⟨n-1,τ⟩;unfold xO;simp[Builtin.clear_,run_underlying J,H,d]
theorem Jo {ops:Array Oper} {o:Oper} {a:Act} {w:World} {K:Act->World->Prop} {Q:Exit->Act->World->Prop} {E:Prop}
  (I:o.guard=none) (s x:Operand) (t t':TypeId) (G:o.op=Op.call {callee:=Callee.builtin Builtin.append,args:= #[s,x],argTypes:= #[t,t']})
  (v u:Value) (N:a.eval s=v) (J:a.eval x=u) {v':Value} {w':World} (M:(Builtin.append_ #[t,t'] o.type #[v,u]).run P w= .ok v' w') (H:K (a.put o.dst v') w'):
  if Region.wanted o (yielded ops a.tmps)=true then Oper.wp P o a w K Q else E:=by
 have d:Region.wanted o (yielded ops a.tmps)=true:=by simp[Region.wanted,I]
 rw[if_pos d];unfold Oper.wp;simp[execOp,G,resolve,invoke,builtin,N,J,M,Result.andThen];exact H
end
theorem Gt (w:World):(zeroValue 282).run prog w= .ok (θ #[ι 0,ι 0,ι 0]) w:=by kernel_rfl
theorem KN:(Builtin.zeroCells (θ #[ι 0,ι 0,ι 0]).cells 1).toList=[ι 0,ι 0,ι 0]:=by kernel_rfl
theorem Vc (h:Hd) (T:List Hd) (v:Value) (base:Nat) (w:World) (row:zT w base v (h::T)):
  Calls prog 207 #[v,ι 0,ι 1] w λe w'=> ∃v',e= .returned v'/\zT w' base v' T/\qg (λk=>v.ownBlock=some k) w w'/\v'.ownBlock=v.ownBlock:=by
 obtain⟨ab,⟨_,Y⟩ | ⟨g,cap,cur,rfl,aw,O,M,ae,af,I⟩⟩:=row
 ·simp at Y
 rw[List.length_cons] at ab M I ⊢;obtain⟨av,aj,au,ah,an⟩:=info_parts (P:=prog) (e:=282) (z:= θ #[ι 0,ι 0,ι 0]) (size:=3) (bytes:=24) ξ;obtain⟨n,N⟩:=ν (T.length);rw[N] at ab M I ⊢;have d:(hdC T).length=n* 3:=by rw[yu,N]
 have ak:cur.toList.length=cap* 3:=by simpa using af
 obtain⟨A,aC,al⟩: ∃A:Addr,(if cap=1 then some (⟨g,0,none⟩:Addr) else some ⟨g,3,none⟩)=some A/\ ∀j u,(hdC T)[j]? =some u->w.drew.cell? (A.add j)=some u:=by
  by_cases h1:cap=1
  ·refine⟨⟨g,0,none⟩,by simp[h1],λj u H=> ?_⟩;have Y:(hdC T).length=0:=by rw[d];omega
   rw[List.length_eq_zero_iff.1 Y] at H;simp at H
  ·refine⟨⟨g,3,none⟩,by simp[h1],λj u H=> ?_⟩;have az:j<n* 3:=by rw[<-d];exact(List.getElem?_eq_some_iff.1 H).1
   rw[Addr.add_lit];show w.cell? ⟨g,3+j,none⟩=some u;rw[cell_of_row w g _ cur _ (0,0) O];have e:(hdC (h::T))[3+j]? =some u:=by
    rw[gP,List.getElem?_append_right (by simp[hd1])]
    simpa [hd1] using H
   rw[<-I,List.getElem?_take,if_pos τ] at e
   simpa using e
 have ad: ∀G,(Builtin.append_ #[189,189] G #[δ (some ⟨g,0,none⟩) 0 cap,δ (some A) n (cap-1)]).run prog w.drew= .ok (δ (some ⟨g,0,none⟩) n cap) (w.drew.setRow g (hdC T++cur.toList.drop (n* 3)).toArray):=by
  intro G;have:=run_append_room (P:=prog) (w:=w.drew) 189 G 282 av underlying189 aj g 0 cap cur O A n (cap-1) (hdC T) (by rw[ah];exact d) al (YE T) τ (by rw[d];have:cur.size=cap* 3:=af;omega);rw[Nat.zero_add,Nat.zero_mul,Nat.zero_add,List.take_zero,List.nil_append,d] at this;exact this
 obtain⟨W1,U⟩: ∃W1,W1=w.drew.setRow g (hdC T++cur.toList.drop (n* 3)).toArray:=⟨_,rfl⟩;have ac:W1.heap[g]? =some (.cells (hdC T++cur.toList.drop (n* 3)).toArray 282 (0,0)):=by rw[U];exact jM (w:=w.drew) O _
 have ag:qg (λk=>k=g) w W1:=by rw[U];exact(show qg (λk=>k=g) w w.drew from qg.of_more (qa.drewN w 1)).trans (qg.setRow w.drew g _)
 have J:(hdC T++cur.toList.drop (n* 3)).length=cap* 3:=by rw[List.length_append,List.length_drop,d,ak];omega
 have aa: ∀G c,(Builtin.clear_ #[189] G #[δ (some ⟨g,n* 3,none⟩) 1 c]).run prog W1= .ok (.tuple #[]) (W1.setRow g (xO (hdC T++cur.toList.drop (n* 3)) (n* 3) [ι 0,ι 0,ι 0]).toArray):=by
  intro G c;have:=Zi (P:=prog) W1 189 G 282 (θ #[ι 0,ι 0,ι 0]) underlying189 (Gt W1) g (n* 3) 1 c ζ _ ac (by rw[KN];show n* 3+3<=_;rw[List.size_toArray,J];omega) (by rw[KN];intro v ai;simp at ai;rw[ai];rfl);rw[KN] at this
  simpa using this
 have am:Hid (zT (W1.setRow g (xO (hdC T++cur.toList.drop (n* 3)) (n* 3) [ι 0,ι 0,ι 0]).toArray) base (δ (some ⟨g,0,none⟩) n cap) T):=κ (by
  refine⟨by rw[yu],Or.inr ⟨g,cap,_,by rw[N],aw,jM ac _,τ,ae, ?_, ?_⟩⟩
  ·rw[List.size_toArray,ut (by rw[J];show n* 3+3<=_;omega),J]
  ·unfold xO;rw[N];simp only[List.append_assoc]
   rw[List.take_append_of_le_length (by rw[List.length_take,List.length_append,d];omega),List.take_take,Nat.min_self,List.take_append_of_le_length (by rw[d];exact Nat.le_refl _),List.take_of_length_le (by rw[d];exact Nat.le_refl _)])
 have ar:Hid (qg (λk=>k=g) w (W1.setRow g (xO (hdC T++cur.toList.drop (n* 3)) (n* 3) [ι 0,ι 0,ι 0]).toArray)):=κ (ag.trans (qg.setRow W1 g _));rw[<-U] at ad;have aq:=κ ad;have ao:=κ aa;have ay:1<=cap:=by omega
 have ax:n+1<=cap:=M;have aD:(cap:Int)<=9223372036854775807:=by unfold maxLen at ae;omega
 generalize W1.setRow g (xO (hdC T++cur.toList.drop (n* 3)) (n* 3) [ι 0,ι 0,ι 0]).toArray=W2 at *;clear ad aa al ab I af ak d O ac ag J U ae aj au ah an M;have mixed:prog.follows Departure.mixedOrders=true:=by kernel_rfl
 have aB:(1:Int)<=(n:Int)+1:=by omega
 go_enter func207,ntmps207
 go_wp2_with fail
 go_region_law_o (refine Jo rfl (.tmp 22) (.tmp 25) 189 189 rfl _ _ (by simp[Act.eval,Act.put]) (by simp[Act.eval,Act.put]) (aq.o _) ?_)
 have aa:=ao.o;have aA: ¬cap=n:=by omega
 go_wp2;go_ret;exact⟨_,rfl,am.o,ar.o.mono λk ap=>by subst ap;rfl,rfl⟩
section
open Go.RowKit Go.Lib
theorem gO (A B d:List Value):xO (A++B) A.length d=A++(d++B.drop d.length):=by
 unfold xO;rw[List.take_left,List.append_assoc]
 congr 2
 rw[<-List.drop_drop,List.drop_left]
theorem Et {A Z D X V:List Value} (d:Z.length=V.length):xO (xO (A++(Z++D)) (A.length+Z.length) X) A.length V=A++(V++(X++D.drop X.length)):=by
 have G:xO (A++(Z++D)) (A.length+Z.length) X=A++(Z++(X++D.drop X.length)):=by
  have:=gO (A++Z) D X;rw[List.length_append] at this
  simpa only[List.append_assoc] using this
 rw[G,gO,<-d,List.drop_left]
theorem Bh {A Z D X V:List Value} (d:Z.length=V.length):xO (xO (A++(Z++D)) A.length V) (A.length+V.length) X=A++(V++(X++D.drop X.length)):=by
 rw[gO,<-d,List.drop_left];have:=gO (A++V) D X;rw[List.length_append] at this;rw[d]
 simpa only[List.append_assoc] using this
section
variable {P:Program}
theorem uH {ops:Array Oper} {o:Oper} {a:Act} {w:World} {K:Act->World->Prop} {Q:Exit->Act->World->Prop} {E:Prop}
  (O:o.guard=none) (G x:Operand) (H d:TypeId) (J:o.op=Op.call {callee:=Callee.builtin Builtin.copy,args:= #[G,x],argTypes:= #[H,d]})
  (v u:Value) (M:a.eval G=v) (U:a.eval x=u) {v':Value} {w':World} (Y:(Builtin.copy_ #[H,d] o.type #[v,u]).run P w= .ok v' w') (N:K (a.put o.dst v') w'):
  if Region.wanted o (yielded ops a.tmps)=true then Oper.wp P o a w K Q else E:=by
 have I:Region.wanted o (yielded ops a.tmps)=true:=by simp[Region.wanted,O]
 rw[if_pos I];unfold Oper.wp;simp[execOp,J,resolve,invoke,builtin,M,U,Y,Result.andThen];exact N
end
theorem gE (h:Hd):(hd1 h).length=3:=rfl
structure Vh (L:List Hd) (h:Hd) (v:Value) (base:Nat) (w:World) (vb:Nat):Prop where
 row:zT w base v L
 base:base<=w.heap.size
 len:L.length<=1000
 one:w.heap[vb]? =some (.cells #[.int .i64 h.1,.int .i64 h.2.1,.int .i64 h.2.2] 282 (0,0))
 ne:v.ownBlock≠some vb
def JS (L:List Hd) (i:Nat) (h:Hd) (v:Value) (base:Nat) (w:World) (e:Ending) (w':World):Prop:=
 ∃v',e= .returned v'/\zT w' base v' (L.take i++h::L.drop i)/\qg (λk=>v.ownBlock=some k) w w'/\(v'.ownBlock=v.ownBlock∨v'.ownBlock=some w.heap.size)
theorem Qw {w:World} {h:Hd} {vb:Nat} (G:w.heap[vb]? =some (.cells #[ι h.1,ι h.2.1,ι h.2.2] 282 (0,0))): ∀j u,(hd1 h)[j]? =some u->w.cell? ((⟨vb,0,none⟩:Addr).add j)=some u:=by
 intro j u d;rw[Addr.add_lit,Nat.zero_add,cell_of_row w vb j _ _ (0,0) G]
 simpa [hd1] using d
theorem YF (h:Hd): ∀u∈hd1 h,u.oneCell'=true:=by
 intro u d;simp[hd1] at d;rcases d with rfl | rfl | rfl<;>rfl
theorem Wj (L:List Hd) (h:Hd) (v:Value) (base:Nat) (w:World) (vb:Nat) (ok:Vh L h v base w vb):
  Calls prog 220 #[v,ι L.length,δ (some ⟨vb,0,none⟩) 1 1] w (JS L L.length h v base w):=by
 obtain⟨row,ad,ar,G,Y⟩:=ok;obtain⟨am,M,N,J,H⟩:=info_parts (P:=prog) (e:=282) (z:= θ #[ι 0,ι 0,ι 0]) (size:=3) (bytes:=24) ξ;obtain⟨v',w',I,U,d,_,O⟩: ∃v' w',(∀ab,(Builtin.append_ #[189,189] ab #[v,δ (some ⟨vb,0,none⟩) 1 1]).run prog w= .ok v' w')/\w'.ownsRow base 282 3 v' (L.length+1) (hdC L++hd1 h)/\w.grownBy w' v.ownBlock/\True/\(v'.ownBlock=v.ownBlock∨v'.ownBlock=some w.heap.size):=by
  obtain⟨v',w',aj,ap,an,_,ak⟩:=run_append_own_at (P:=prog) (w:=w) base 189 0 282 am (θ #[ι 0,ι 0,ι 0]) 3 24 underlying189 M N J H rfl ζ v L.length (hdC L) row ⟨vb,0,none⟩ 1 1 (hd1 h) rfl (Qw G) (YF h) (by unfold maxLen;omega) τ ad;exact⟨v',w',λab=>aj,ap,an,trivial,ak⟩
 have aa:Hid (JS L L.length h v base w (.returned v') w'):=κ ⟨v',rfl,by
  unfold zT;rw[List.take_length,List.drop_length,uT,List.length_append]
  exact U,⟨d.os,d.tape,d.output,d.size,λk ai ah=>d.block k ai (λe=>ah e.symm)⟩,O⟩
 have ac:=κ I;rcases row with ⟨_,⟨rfl,af⟩ | ⟨g,cap,cur,rfl,au,al,ag,av,ao,ae⟩⟩
 ·rw[af] at *;clear I U d O G M N J H Y
  go_enter func220,ntmps220
  go_wp2_with (at_builtin;refine Lib.wpList_append_run _ rfl _ _ _ _ rfl _ _ rfl rfl _ _ (ac.o _) ?_)
  go_ret;exact aa.o
 ·have aq:L.length<=cap:=ag;clear I U d O G M N J H Y al ao ae
  go_enter func220,ntmps220
  go_wp2_with (at_builtin;refine Lib.wpList_append_run _ rfl _ _ _ _ rfl _ _ rfl rfl _ _ (ac.o _) ?_)
  all_goals (go_ret;exact aa.o)
end
section
open Go.RowKit Go.Lib
theorem Uq {C:List Value} {L:List Hd} {i:Nat} (hi:i<L.length) (G:C.take (L.length* 3)=hdC L) (I:L.length* 3<=C.length):
  ∃Z R,C=hdC (L.take i)++(Z++R)/\Z.length=3/\(hdC (L.take i)).length=i* 3:=by
 have d:(hdC (L.take i)).length=i* 3:=by rw[yu,List.length_take];congr 1;omega
 have e:C.take (i* 3)=hdC (L.take i):=by
  have H:C.take (i* 3)=(C.take (L.length* 3)).take (i* 3):=by
   rw[List.take_take];congr 1;have:i* 3<=L.length* 3:=Nat.mul_le_mul_right 3 τ;omega
  rw[H,G]
  conv=>lhs;rw[<-List.take_append_drop i L,uT]
  rw[<-d,List.take_left]
 refine⟨(C.drop (i* 3)).take 3,(C.drop (i* 3)).drop 3, ?_, ?_,d⟩
 ·rw[List.take_append_drop,<-e,List.take_append_drop]
 ·have:i* 3+3<=L.length* 3:=by
   have:=Nat.mul_le_mul_right 3 (show i+1<=L.length from hi);omega
  rw[List.length_take,List.length_drop];omega
theorem VM {L:List Hd} {i:Nat} {h:Hd} {D:List Value} (hi:i<L.length):
  (hdC (L.take i)++(hd1 h++(hdC (L.drop i)++D))).take ((L.length+1)* 3)=hdC (L.take i++h::L.drop i):=by
 have e:hdC (L.take i++h::L.drop i)=hdC (L.take i)++(hd1 h++hdC (L.drop i)):=by rw[uT,gP]
 have d:(hdC (L.take i++h::L.drop i)).length=(L.length+1)* 3:=by
  rw[yu,List.length_append,List.length_cons,List.length_take,List.length_drop];congr 1;omega
 rw[<-d];have:hdC (L.take i)++(hd1 h++(hdC (L.drop i)++D))=hdC (L.take i++h::L.drop i)++D:=by rw[e];simp only[List.append_assoc]
 rw[this,List.take_left]
theorem YU (w:World) (g vb cap o k lb H:Nat) (cur G:Array Value) (J:w.heap[g]? =some (.cells cur 282 (0,0))) (M:cur.size≠0) (d:w.heap[vb]? =some (.cells G 282 (0,0))) (I:vb≠g):
  (callFunc 244 #[δ (some ⟨vb,0,none⟩) 1 1,δ (some ⟨g,o,none⟩) lb H]).run prog w= .ok (.value (μ false)) w:=by
 rw[run_callFunc_extern func244 ξ ξ ξ (e:=Extern.SlicesOverlaps.overlaps #[189,189] #[4]) ξ,
  Lib.run_overlaps_apart w 189 4 282 underlying189 3 (λw=>by kernel_rfl) ⟨vb,0,none⟩ ⟨g,o,none⟩ 1 1 lb H I 282 282 G.size cur.size (by simp[World.shape?,d]) (by simp[World.shape?,J]) M (qd d 0) (qd d _)]
 rfl
theorem Vb (L:List Hd) (i:Nat) (hi:i<L.length) (h:Hd) (base:Nat) (w:World) (vb g cap:Nat) (ok:Vh L h (δ (some ⟨g,0,none⟩) L.length cap) base w vb) (au:L.length+1<=cap):
  Calls prog 220 #[δ (some ⟨g,0,none⟩) L.length cap,ι i,δ (some ⟨vb,0,none⟩) 1 1] w (JS L i h (δ (some ⟨g,0,none⟩) L.length cap) base w):=by
 obtain⟨row,aJ,ar,O,ak⟩:=ok;obtain⟨aH,⟨aA,_⟩ | ⟨g',aU,cur,e,aF,I,ap,aj,ax,Y⟩⟩:=row
 ·cases aA
 cases e;have aw:vb≠g:=λe=>ak (by rw[e];rfl)
 obtain⟨av,ae,aE,ab,az⟩:=info_parts (P:=prog) (e:=282) (z:= θ #[ι 0,ι 0,ι 0]) (size:=3) (bytes:=24) ξ;have ai:cur.toList.length=cap* 3:=by simpa using ax
 obtain⟨Z,R,an,ad,ah⟩:=Uq hi Y τ;have J:(hdC (L.drop i)).length=(L.length-i)* 3:=by rw[yu,List.length_drop]
 obtain⟨n,ac⟩:=ν (L.length);have ay:=λ(o lb aC:Nat)=>YU w g vb cap o 0 lb aC cur _ I τ O aw
 have ag: ∀d G sc,(Builtin.copy_ #[189,189] d #[δ (some ⟨g,(i+1)* 3,none⟩) (n-i) G,δ (some ⟨g,i* 3,none⟩) (n+1-i) sc]).run prog w.drew= .ok (ι ((n-i:Nat):Int)) (w.drew.setRow g (xO cur.toList ((i+1)* 3) (hdC (L.drop i))).toArray):=by
  intro d G sc;have H:Nat.min (n+1-i) (n-i)=n-i:=by simp only[Nat.min_def];split<;>omega
  have:=yN (P:=prog) w.drew 189 d 282 av underlying189 ae g ((i+1)* 3) (n-i) G cur I ⟨g,i* 3,none⟩ (n+1-i) sc (hdC (L.drop i)) (by rw[H,ab,J,ac]) (by
   intro j u ao;rw[Addr.add_lit];show w.cell? ⟨g,i* 3+j,none⟩=some u;rw[cell_of_row w g _ cur _ (0,0) I];have aR:j<(L.length-i)* 3:=by rw[<-J];exact(List.getElem?_eq_some_iff.1 ao).1
   have e:(hdC L)[i* 3+j]? =some u:=by
    conv=>lhs;rw[<-List.take_append_drop i L,uT]
    rw[List.getElem?_append_right τ,ah,Nat.add_sub_cancel_left];exact ao
   rw[<-Y,List.getElem?_take,if_pos τ] at e
   simpa using e) (by rw[J];omega) (YE _)
  rw[H] at this;rw[this];rfl
 obtain⟨W1,N⟩: ∃W1,W1=w.drew.setRow g (xO cur.toList ((i+1)* 3) (hdC (L.drop i))).toArray:=⟨_,rfl⟩;have af:W1.heap[g]? =some (.cells (xO cur.toList ((i+1)* 3) (hdC (L.drop i))).toArray 282 (0,0)):=by rw[N];exact jM (w:=w.drew) I _
 have U:qg (λk=>k=g) w W1:=by rw[N];exact(show qg (λk=>k=g) w w.drew from qg.of_more (qa.drewN w 1)).trans (qg.setRow w.drew g _)
 have M:(xO cur.toList ((i+1)* 3) (hdC (L.drop i))).length=cap* 3:=by rw[ut (by rw[J,ai];omega),ai]
 have aq:=U.blk O aw;have aa: ∀d G,(Builtin.copy_ #[189,189] d #[δ (some ⟨g,i* 3,none⟩) (n+1-i) G,δ (some ⟨vb,0,none⟩) 1 1]).run prog W1= .ok (ι 1) (W1.setRow g (xO (xO cur.toList ((i+1)* 3) (hdC (L.drop i))) (i* 3) (hd1 h)).toArray):=by
  intro d G;have H:Nat.min 1 (n+1-i)=1:=by simp only[Nat.min_def];split<;>omega
  have:=yN (P:=prog) W1 189 d 282 av underlying189 ae g (i* 3) (n+1-i) G _ af ⟨vb,0,none⟩ 1 1 (hd1 h) (by rw[H,ab];rfl) (Qw aq) (by rw[List.size_toArray,M,gE];omega) (YF h);rw[H] at this;rw[this];rfl
 have al:Hid (JS L i h (δ (some ⟨g,0,none⟩) L.length cap) base w (.returned (δ (some ⟨g,0,none⟩) (n+1) cap)) (W1.setRow g (xO (xO cur.toList ((i+1)* 3) (hdC (L.drop i))) (i* 3) (hd1 h)).toArray)):=κ (by
  have am:(L.take i++h::L.drop i).length=n+1:=by rw[List.length_append,List.length_cons,List.length_take,List.length_drop];omega
  refine⟨_,rfl,⟨by rw[yu],Or.inr ⟨g,cap,_,by rw[am],aF,jM af _,τ,aj, ?_, ?_⟩⟩,(U.trans (qg.setRow W1 g _)).mono λk aB=>by subst aB;rfl,Or.inl rfl⟩
  ·rw[List.size_toArray,ut (by rw[M,gE];omega),M]
  ·have:=Et (A:=hdC (L.take i)) (Z:=Z) (D:=R) (X:=hdC (L.drop i)) (V:=hd1 h) (by rw[ad];rfl);rw[ad,ah,<-an,show i* 3+3=(i+1)* 3 by omega] at this;rw[am,<-ac];simp only[this]
   exact VM hi)
 rw[<-N] at ag;generalize W1.setRow g (xO (xO cur.toList ((i+1)* 3) (hdC (L.drop i))) (i* 3) (hd1 h)).toArray=W2 at *;rw[ac] at au ar ap al ⊢;have aG:=κ ag;have aD:=κ aa;have mixed:prog.follows Departure.mixedOrders=true:=by kernel_rfl
 have aK:IntKind.i64.wrap ((i:Int)+1)=(i:Int)+1:=by rw[IntKind.wrap_i64];omega
 have aS:(0:Int)<=(i:Int)+1:=by omega
 have aQ:((i:Int)+1).toNat=i+1:=by omega
 have aV:(i:Int)<=(n:Int):=by omega
 have aT: ¬(cap:Int)<(n:Int)+1:=by omega
 have aI:(n:Int)<=1000:=by omega
 have aO:(i:Int)+1<=(n:Int)+1:=by omega
 have aL: ¬cap=i:=by omega
 have aP: ¬cap=i+1:=by omega
 have aM:(i:Int)<=(n:Int)+1:=by omega
 have aN:(cap:Int)<=9223372036854775807:=by unfold maxLen at aj;omega
 clear ag aa ai J af U M aq O I ax Y aH ae aE ab az an ad ah N ak au ap ar aj
 go_enter func220,ntmps220
 go_wp2_with (simp only[ay])
 go_region_law_o (refine uH rfl (.tmp 73) (.tmp 76) 189 189 rfl _ _ (by simp[Act.eval,Act.put]) (by simp[Act.eval,Act.put]) (aG.o _ (cap-(i+1)) (cap-i)) ?_)
 have aa:=aD.o;go_wp2;go_ret;exact al.o
end
section
open Go.RowKit Go.Lib
theorem KE (L:List Hd) (i:Nat) (hi:i<L.length) (h:Hd) (base:Nat) (w:World) (vb g cap:Nat) (ok:Vh L h (δ (some ⟨g,0,none⟩) L.length cap) base w vb) (bo:cap<L.length+1):
  Calls prog 220 #[δ (some ⟨g,0,none⟩) L.length cap,ι i,δ (some ⟨vb,0,none⟩) 1 1] w (JS L i h (δ (some ⟨g,0,none⟩) L.length cap) base w):=by
 obtain⟨row,bd,aY,aK,aT⟩:=ok;obtain⟨aS,⟨bb,_⟩ | ⟨g',bt,cur,e,bl,an,aP,bc,ba,aD⟩⟩:=row
 ·cases bb
 cases e;obtain⟨af,ac,aO,Y,ak⟩:=info_parts (P:=prog) (e:=282) (z:= θ #[ι 0,ι 0,ι 0]) (size:=3) (bytes:=24) ξ;obtain⟨n,au⟩:=ν (L.length);have aa:(hdC (L.take i)).length=i* 3:=by rw[yu,List.length_take];congr 1;omega
 have ad:(hdC (L.drop i)).length=(n-i)* 3:=by rw[yu,List.length_drop,au]
 have az: ∀j u,(hdC L)[j]? =some u->w.cell? ⟨g,j,none⟩=some u:=by
  intro j u J;rw[cell_of_row w g _ cur _ (0,0) an];have aW:j<L.length* 3:=by rw[<-yu];exact(List.getElem?_eq_some_iff.1 J).1
  rw[<-aD,List.getElem?_take,if_pos aW] at J
  simpa using J
 have holds: ∀j u,(hdC (L.take i))[j]? =some u->w.cell? ((⟨g,0,none⟩:Addr).add j)=some u:=by
  intro j u J;rw[Addr.add_lit,Nat.zero_add];refine az j u ?_
  conv=>lhs;rw[<-List.take_append_drop i L,uT]
  rw[List.getElem?_append_left (List.getElem?_eq_some_iff.1 J).1];exact J
 have aJ: ∀j u,(hdC (L.drop i))[j]? =some u->w.cell? ((⟨g,i* 3,none⟩:Addr).add j)=some u:=by
  intro j u J;rw[Addr.add_lit];refine az _ u ?_
  conv=>lhs;rw[<-List.take_append_drop i L,uT]
  rw[List.getElem?_append_right τ,aa,Nat.add_sub_cancel_left];exact J
 have aH:(Builtin.firstCells af.size i (δ (some ⟨g,0,none⟩) i cap)).run prog w.drew= .ok (hdC (L.take i)).toArray w.drew:=by
  rw[Y];exact run_firstCells_some (w:=w.drew) 3 i ⟨g,0,none⟩ i cap (hdC (L.take i)) aa holds
 have aA:i+(n+1-i)=n+1:=by omega
 have aN:(n:Int)+1-(i:Int)=((n+1-i:Nat):Int):=by omega
 obtain⟨G,ah⟩: ∃G,G=grownCap w (n+1) cap 282:=⟨_,rfl⟩;obtain⟨d,aC⟩: ∃d:Array Value,d=(hdC (L.take i)).toArray++Builtin.zeroCells (θ #[ι 0,ι 0,ι 0]).cells (n+1-i)++Builtin.zeroCells (θ #[ι 0,ι 0,ι 0]).cells (G-(n+1)):=⟨_,rfl⟩;have am: ∀I,(Builtin.append_ #[189,3] I #[δ (some ⟨g,0,none⟩) i cap,ι ((n:Int)+1-(i:Int))]).run prog w= .ok (δ (some ⟨w.heap.size,0,none⟩) (n+1) G) (w.drew.alloc (.cells d 282)):=λI=>by
  have h:=Lib.run_append_grow_zeros (P:=prog) w 189 3 I 282 af _ .i64 .i64 underlying189 underlying3 ac aO (some ⟨g,0,none⟩) i cap (hdC (L.take i)) aH (n+1-i) τ (by rw[Y];decide) τ τ (by rw[ak];omega) (by rw[ak,aA];exact growslice_fits τ τ);rw[aA,<-ah,<-aC] at h;rw[aN];exact h
 have bh:n+1<=G:=by rw[ah];exact grownCap_ge w _ _ _
 have av:G<=maxLen:=by rw[ah];exact grownCap_le_maxLen w (n+1) cap 282 (by unfold maxLen;omega)
 obtain⟨O,ap⟩:=ν ((Builtin.zeroCells (θ #[ι 0,ι 0,ι 0]).cells (n+1-i)).toList);have aG:O.length=(n+1-i)* 3:=by rw[<-ap,Array.length_toList,size_zeroCells];rfl
 obtain⟨N,ao⟩:=ν ((Builtin.zeroCells (θ #[ι 0,ι 0,ι 0]).cells (G-(n+1))).toList);have aF:N.length=(G-(n+1))* 3:=by rw[<-ao,Array.length_toList,size_zeroCells];rfl
 have aq:d.toList=hdC (L.take i)++(O++N):=by
  rw[aC,Array.toList_append,Array.toList_append,ap,ao,List.append_assoc]
 obtain⟨Z,D,aI,aX⟩: ∃Z D,O++N=Z++D/\Z.length=3:=⟨(O++N).take 3,(O++N).drop 3,(List.take_append_drop 3 _).symm,by rw[List.length_take,List.length_append];omega⟩;have aj:d.toList.length=G* 3:=by rw[aq,List.length_append,List.length_append,aa,aG,aF];omega
 obtain⟨H,aw⟩:=ν (w.heap.size);obtain⟨W1,ag⟩: ∃W1,W1=w.drew.alloc (.cells d 282):=⟨_,rfl⟩;have ax:W1.heap[H]? =some (.cells d 282 (0,0)):=by rw[ag];exact qC (w:=w.drew) aw.symm
 have aB:qa w W1:=by rw[ag];exact(qa.drewN w 1).al _
 have ai: ∀I M,(Builtin.copy_ #[189,189] I #[δ (some ⟨H,i* 3,none⟩) (n+1-i) M,δ (some ⟨vb,0,none⟩) 1 1]).run prog W1= .ok (ι 1) (W1.setRow H (xO d.toList (i* 3) (hd1 h)).toArray):=by
  intro I M;have U:Nat.min 1 (n+1-i)=1:=by simp only[Nat.min_def];split<;>omega
  have:=yN (P:=prog) W1 189 I 282 af underlying189 ac H (i* 3) (n+1-i) M d ax ⟨vb,0,none⟩ 1 1 (hd1 h) (by rw[U,Y];rfl) (Qw (qc aB aK)) (by rw[gE,<-Array.length_toList,aj];omega) (YF h);rw[U] at this;rw[this];rfl
 obtain⟨W2,ae⟩: ∃W2,W2=W1.setRow H (xO d.toList (i* 3) (hd1 h)).toArray:=⟨_,rfl⟩;have ar:W2.heap[H]? =some (.cells (xO d.toList (i* 3) (hd1 h)).toArray 282 (0,0)):=by rw[ae];exact jM ax _
 have ay:qa w W2:=by rw[ae];exact(qg.setRow W1 H _).to_more aB (λk aQ=>by omega)
 have ab:(xO d.toList (i* 3) (hd1 h)).length=G* 3:=by rw[ut (by rw[gE,aj];omega),aj]
 have aM: ∀I M sc,(Builtin.copy_ #[189,189] I #[δ (some ⟨H,(i+1)* 3,none⟩) (n-i) M,δ (some ⟨g,i* 3,none⟩) (n-i) sc]).run prog W2.drew= .ok (ι ((n-i:Nat):Int)) (W2.drew.setRow H (xO (xO d.toList (i* 3) (hd1 h)) ((i+1)* 3) (hdC (L.drop i))).toArray):=by
  intro I M sc;have U:Nat.min (n-i) (n-i)=n-i:=Nat.min_self _
  have:=yN (P:=prog) W2.drew 189 I 282 af underlying189 ac H ((i+1)* 3) (n-i) M _ ar ⟨g,i* 3,none⟩ (n-i) sc (hdC (L.drop i)) (by rw[U,Y,ad]) (by
   intro j u J;have:=aJ j u J;rw[Addr.add_lit] at this ⊢;show W2.cell? _=_;rw[ay.cells g _ (lt_of_block an)]
   exact this) (by rw[List.size_toArray,ab,ad];omega) (YE _)
  rw[U] at this;rw[this];rfl
 have aE:Hid (JS L i h (δ (some ⟨g,0,none⟩) L.length cap) base w (.returned (δ (some ⟨H,0,none⟩) (n+1) G)) (W2.drew.setRow H (xO (xO d.toList (i* 3) (hd1 h)) ((i+1)* 3) (hdC (L.drop i))).toArray)):=κ (by
  have aL:(L.take i++h::L.drop i).length=n+1:=by rw[List.length_append,List.length_cons,List.length_take,List.length_drop];omega
  have aU:qa w (W2.drew.setRow H (xO (xO d.toList (i* 3) (hd1 h)) ((i+1)* 3) (hdC (L.drop i))).toArray):=(qg.setRow W2.drew H _).to_more (ay.trans (qa.drewN W2 1)) (λk aQ=>by omega);refine⟨_,rfl,⟨by rw[yu],Or.inr ⟨H,G,_,by rw[aL],τ,jM (w:=W2.drew) ar _,τ,av, ?_, ?_⟩⟩,qg.of_more aU,Or.inr (by rw[aw];rfl)⟩
  ·rw[List.size_toArray,ut (by rw[ab,ad];omega),ab]
  ·have:=Bh (A:=hdC (L.take i)) (Z:=Z) (D:=D) (X:=hdC (L.drop i)) (V:=hd1 h) (by rw[aX];rfl);rw[gE,aa,<-aI,<-aq,show i* 3+3=(i+1)* 3 by omega] at this;rw[aL,<-au];simp only[this]
   exact VM hi)
 rw[aw,<-ag] at am;rw[<-ae] at ai;generalize W2.drew.setRow H (xO (xO d.toList (i* 3) (hd1 h)) ((i+1)* 3) (hdC (L.drop i))).toArray=W3 at *;rw[au] at aE ⊢;have aV:=κ am;have aZ:=κ ai;have aR:=κ aM;have mixed:prog.follows Departure.mixedOrders=true:=by kernel_rfl
 have bj:IntKind.i64.wrap ((i:Int)+1)=(i:Int)+1:=by rw[IntKind.wrap_i64];omega
 have bk:(0:Int)<=(i:Int)+1:=by omega
 have bq:((i:Int)+1).toNat=i+1:=by omega
 have bu:(i:Int)<=(n:Int):=by omega
 have bs:(cap:Int)<(n:Int)+1:=by omega
 have bi:(n:Int)<=1000:=by omega
 have bf:(i:Int)+1<=(n:Int)+1:=by omega
 have bm: ¬cap=i:=by omega
 have bp: ¬G=i:=by omega
 have bg: ¬G=i+1:=by omega
 have be:(i:Int)<=(n:Int)+1:=by omega
 have br:(i:Int)<=(cap:Int):=by omega
 have bn:(G:Int)<=9223372036854775807:=by unfold maxLen at av;omega
 clear am ai aM ad ax ar aB ay ab aK an ba aD aS ac aO Y ak aI aa ag ae aT aP aY bc az holds aJ aH ah aC aq aj ap ao aG aF aN aA av
 go_enter func220,ntmps220
 go_wp2_with (at_builtin;refine Lib.wpList_append_run _ rfl _ _ _ _ rfl _ _ rfl rfl _ _ (aV.o _) ?_;have ai:=aZ.o)
 go_region_law_o (refine uH rfl (.tmp 50) (.tmp 53) 189 189 rfl _ _ (by simp[Act.eval,Act.put]) (by simp[Act.eval,Act.put]) (aR.o _ (G-(i+1)) (cap-i)) ?_)
 go_wp2;go_ret;exact aE.o
end
section
open Go.RowKit Go.Lib
theorem Wk (L:List Hd) (i:Nat) (hi:i<=L.length) (h:Hd) (v:Value) (base:Nat) (w:World) (vb:Nat) (d:Vh L h v base w vb):
  Calls prog 220 #[v,ι i,δ (some ⟨vb,0,none⟩) 1 1] w (JS L i h v base w):=by
 by_cases e:i=L.length
 ·subst e;exact Wj L h v base w vb d
 ·rcases d.row.2 with ⟨_,G⟩ | ⟨g,cap,_,rfl,_⟩
  ·omega
  ·by_cases hc:L.length+1<=cap
   ·exact Vb L i τ h base w vb g cap d hc
   ·exact KE L i τ h base w vb g cap d τ
structure Jb where
 room:Int
 wait:Int
 holds:List Hd
 begun:Bool
 hi:Int
 bits:Int
def yc (b:Jb) (v:Value):Array Value:= #[.int .i64 b.room,.int .i64 b.wait,v,.bool b.begun,.int .i64 b.hi,.int .u64 b.bits]
structure xZ (w:World) (R:Nat) (v:Value) (b:Jb):Prop where
 blk:w.heap[R]? =some (.cells (yc b v) 194 (0,0))
 row:zT w (R+1) v b.holds
theorem xZ.on {w w':World} {R:Nat} {v:Value} {b:Jb} (h:xZ w R v b) (m:qa w w'):xZ w' R v b:=⟨qc m h.blk,h.row.more m⟩
theorem xZ.cells {w:World} {R:Nat} {v:Value} {b:Jb} (h:xZ w R v b): ∀x:qt w,x.w'.cell? ⟨R,0,none⟩=some (ι b.room)/\x.w'.cell? ⟨R,1,none⟩=some (ι b.wait)/\x.w'.cell? ⟨R,2,none⟩=some v/\x.w'.cell? ⟨R,3,none⟩=some (μ b.begun)/\x.w'.cell? ⟨R,4,none⟩=some (ι b.hi)/\x.w'.cell? ⟨R,5,none⟩=some (ψ b.bits):=λx=>
 have k:=qc x.h h.blk
 ⟨qb k 0 rfl,qb k 1 rfl,qb k 2 rfl,qb k 3 rfl,qb k 4 rfl,qb k 5 rfl⟩
abbrev xz (n:Int):Prop:=0<=n/\n<=1152921504606846976
structure JOK (b:Jb):Prop where
 room:1<=b.room/\b.room<=8
 wait:0<=b.wait/\b.wait<=1000
 fits:(b.holds.length:Int)<=b.room
 nums: ∀h∈b.holds,xz h.1/\xz h.2.1
 rise:b.holds.Pairwise λa c=>a.1<c.1
 hi:xz b.hi
 bits:U64 b.bits
 over:b.begun=true-> ∀h∈b.holds,b.hi<h.1
theorem Dp (n:Int) (B:Nat) (x:Hd) (w:World) (d:w.heap[B]? =some (.cells #[ι n] 2 (0,0))):
  Calls prog 217 #[θ #[ι x.1,ι x.2.1,ι x.2.2],γ B] w λe w'=>e= .returned (μ (x.1==n))/\qa w w':=by
 obtain⟨H,G,I⟩:=x;have J:(w.alloc (.cells #[ι H,ι G,ι I] 282)).cell? ⟨B,0,none⟩=some (ι n):=qb (qs d _) 0 rfl;clear d
 go_enter func217,ntmps217
 go_wp2;go_ret;exact⟨rfl,qa.alloc _ _⟩
theorem Wp (n:Int) (B:Nat) (x:Hd) (w:World) (d:w.heap[B]? =some (.cells #[ι n] 2 (0,0))):
  Calls prog 218 #[θ #[ι x.1,ι x.2.1,ι x.2.2],γ B] w λe w'=>e= .returned (μ (decide (n<x.1)))/\qa w w':=by
 obtain⟨H,G,I⟩:=x;have J:(w.alloc (.cells #[ι H,ι G,ι I] 282)).cell? ⟨B,0,none⟩=some (ι n):=qb (qs d _) 0 rfl;clear d
 go_enter func218,ntmps218
 go_wp2;go_ret;exact⟨rfl,qa.alloc _ _⟩
theorem FT (b:Jb) (R:Nat) (v:Value) (w:World) (h:xZ w R v b):
  Calls prog 43 #[γ R] w λe w'=>e= .returned (ι b.holds.length)/\w=w':=by
 obtain⟨G,c1,c2,c3,J,I⟩:=h.cells ⟨w,qa.refl _⟩;obtain⟨H,cap,rfl,d⟩:=h.row.shape;clear h
 go_enter func43,ntmps43
 go_wp2;go_ret;exact⟨rfl,rfl⟩
theorem ux (b:Jb) (R:Nat) (v:Value) (w:World) (h:xZ w R v b) (d:xz b.hi):
  Calls prog 149 #[γ R] w λe w'=>e= .returned (.tuple #[ι (if b.begun then b.hi+1 else 0),b.begun])/\w=w':=by
 obtain⟨H,c1,c2,c3,J,I⟩:=h.cells ⟨w,qa.refl _⟩;obtain⟨G,M⟩:=d;clear h;cases hb:b.begun with
 | true=>
  rw[hb] at c3
  go_enter func149,ntmps149
  go_wp2
  go_ret2
  exact⟨rfl,rfl⟩
 | false=>
  rw[hb] at c3
  go_enter func149,ntmps149
  go_wp2
  go_ret2
  exact⟨rfl,rfl⟩
end
section
open Go.RowKit Go.Lib
def zX (b:Jb) (now:Int) (h:Hd):Bool:=decide (b.wait<=now-h.2.1)
def xa (b:Jb) (now:Int):Bool:=match b.holds with
 | []=>false
 | h::_=> !b.begun||h.1==b.hi+1||decide (b.room<=b.holds.length)||b.holds.any (zX b now)
theorem U7 (b:Jb) (R:Nat) (v:Value) (M:Int) (af:xz M) (O aa:Nat) (x:Hd) (ah:xz x.2.1) (w:World) (h:xZ w R v b)
  (U:w.heap[O]? =some (.cells #[ι M] 2 (0,0))) (Y:w.heap[aa]? =some (.cells #[γ R] 111 (0,0))):
  Calls prog 148 #[θ #[ι x.1,ι x.2.1,ι x.2.2],γ O,γ aa] w λe w'=>e= .returned (μ (zX b M x))/\qa w w':=by
 obtain⟨J,I,H⟩:=x;obtain⟨ad,ae⟩:=ah;obtain⟨aj,ak⟩:=af;simp only at ad ae;have d:=qa.alloc w (.cells #[ι J,ι I,ι H] 282);obtain⟨W,G⟩: ∃W,W=w.alloc (.cells #[ι J,ι I,ι H] 282):=⟨_,rfl⟩;have N:W.heap[w.heap.size]? =some (.cells #[ι J,ι I,ι H] 282 (0,0)):=by rw[G];exact qj w _
 rw[<-G] at d;have c1: ∀x:qt W,x.w'.cell? ⟨R,1,none⟩=some (ι b.wait):=λx=>((h.on d).cells x).2.1
 have c3:=λ(x:qt W)=>β0 (qc (d.trans x.h) U)
 have c2:=λ(x:qt W)=>β0 (qc (d.trans x.h) Y)
 have ai:=λ(x:qt W)=>β1 (qc x.h N)
 have ab:=κ d;clear h U Y N d
 go_enter func148,ntmps148
 go_wp2_with fail
 rw[<-G];clear G;generalize w.heap.size=BX at *;refine qD W (qa.refl _) ξ ξ ?_
 repeat (go_big_quiet_step (fail))
 refine wpQuiet_nil ?_;intro _ ac;obtain⟨ag,rfl⟩:=ac;go_wp2;go_ret;exact⟨rfl,ab.o.trans ag.h⟩
theorem Z7 (b:Jb) (ok:JOK b) (R:Nat) (v:Value) (d:Int) (aC:xz d) (w:World) (h:xZ w R v b):
  Calls prog 101 #[γ R,ι d] w λe w'=>e= .returned (μ (xa b d))/\qa w w':=by
 obtain⟨W,G⟩: ∃W,W=(w.alloc (.cells #[γ R] 111)).alloc (.cells #[ι d] 2):=⟨_,rfl⟩;have af:qa w W:=by rw[G];exact(qa.alloc w _).al _
 have ak:W.heap[w.heap.size]? =some (.cells #[γ R] 111 (0,0)):=by rw[G];exact qs (qj w _) _
 have ao:W.heap[w.heap.size+1]? =some (.cells #[ι d] 2 (0,0)):=by rw[G];exact qC η
 have N:=κ (h.on af);have aO: ∀x:qt W,x.w'.cell? ⟨R,0,none⟩=some (ι b.room):=λx=>(N.o.cells x).1
 have c2: ∀x:qt W,x.w'.cell? ⟨R,2,none⟩=some v:=λx=>(N.o.cells x).2.2.1
 have am:W.cell? ⟨R,2,none⟩=some v:=(N.o.cells ⟨W,qa.refl _⟩).2.2.1;have aD:=λ(x:qt W)=>β0 (qc x.h ak)
 have aJ:w.heap.size≠R:=λe=>by have:=lt_of_block h.blk;omega
 have ab:=κ af;have J:=κ N.o.row;have an:Hid (ZA 148 #[γ (w.heap.size+1),γ w.heap.size] (zX b d) b.holds W):=κ λad x ap m=>
  U7 b R v d aC _ _ x (ok.nums x ap).2 ad (N.o.on m) (qc m ao) (qc m ak)
 obtain⟨ar,cap,rfl,az⟩:=N.o.row.shape;obtain⟨aI,aH⟩:=ok.room;have aG:=ok.fits;obtain⟨ag,ah⟩:=ok.hi;clear h;have H:Hid (xZ ((w.alloc (.cells #[γ R] 111)).alloc (.cells #[ι d] 2)) R (δ ar b.holds.length cap) b):=κ (G▸N.o);have aa:((w.alloc (.cells #[γ R] 111)).alloc (.cells #[ι d] 2)).cell? ⟨R,2,none⟩=some (δ ar b.holds.length cap):=G▸am;cases hbh:b.holds with
 | nil=>
  have ac:xa b d=false:=by unfold xa;rw[hbh]
  have U:=κ ac;have aE:Hid (qa w ((w.alloc (.cells #[γ R] 111)).alloc (.cells #[ι d] 2))):=κ (G▸ab.o);rw[hbh,List.length_nil] at aa;clear ac an J ak ao af c2 am aD G
  go_enter func101,ntmps101
  go_wp2;go_ret;exact⟨by rw[U.o];rfl,aE.o⟩
 | cons k T=>
  have aF:b.holds.length=T.length+1:=by rw[hbh];rfl
  obtain⟨g,aN,e,aA,aM,av⟩:=J.o.cell 0 τ;cases e;have aK: ∀x:qt W,x.w'.cell? ⟨g,0,none⟩=some (ι k.1):=λx=>by
   have:=(av _ x.h).1;rw[Nat.zero_mul,hbh] at this;exact this
  have ac:xa b d=(!b.begun||k.1==b.hi+1||decide (b.room<=b.holds.length)||b.holds.any (zX b d)):=by unfold xa;rw[hbh]
  have U:=κ ac;have aw: ¬(b.holds.length:Int)=0:=by omega
  have aB:(0:Int)<(b.holds.length:Int):=by omega
  clear ac av ak ao af am hbh aF aA;obtain⟨aq,au⟩:=ν (b.holds.length);rw[au] at c2 aa U aw aB az aG H J;clear au;generalize k.1=K1 at *;have aj:Hid (∀ad,qa W ad->ZA 148 #[γ (w.heap.size+1),γ w.heap.size] (zX b d) b.holds ad):=κ λad m ay x ap ax=>an.o ay x ap (m.trans ax)
  have ai: ∀args w,(callFunc 148 args).run prog w= .ok (.enter 148 args) w:=λargs w=>by kernel_rfl
  clear an;cases hbg:b.begun with
  | false=>
   have ae:=κ hbg;have I:Hid (xa b d=true):=κ (by rw[U.o,hbg];rfl);clear hbg U
   go_enter func101,ntmps101
   go_wp2_with (go_at_call 149;(go_call ux b R _ _ H.o ⟨ag,ah⟩ as e w1 ⟨rfl,rfl⟩;rw[ae.o]))
   rw[<-G];clear G H aa;generalize w.heap.size=B2 at *;refine qD W (qa.refl _) ξ ξ ?_
   repeat (go_big_quiet_step ((go_at_call 150;with_reducible exact j6 (xt _ _ (zX b d) ai b.holds _ (R+1) _ (J.o.more (qt.h _)) (aj.o _ (qt.h _))))))
   refine wpQuiet_nil ?_;intro _ M;obtain⟨O,rfl⟩:=M;go_wp2;go_ret;exact⟨by rw[I.o];rfl,ab.o.trans O.h⟩
  | true=>
   have ae:=κ hbg;have Y:Hid (xa b d=(K1==b.hi+1||decide (b.room<=(aq:Int))||b.holds.any (zX b d))):=κ (by rw[U.o,hbg];rfl);clear hbg U;cases hk:(K1==b.hi+1) with
   | true=>
    have I:Hid (xa b d=true):=κ (by rw[Y.o,hk];rfl);clear Y
    go_enter func101,ntmps101
    go_wp2_with (go_at_call 149;(go_call ux b R _ _ H.o ⟨ag,ah⟩ as e w1 ⟨rfl,rfl⟩;rw[ae.o]))
    rw[<-G];clear G H aa;generalize w.heap.size=B2 at *;refine qD W (qa.refl _) ξ ξ ?_
    repeat (go_big_quiet_step ((go_at_call 150;with_reducible exact j6 (xt _ _ (zX b d) ai b.holds _ (R+1) _ (J.o.more (qt.h _)) (aj.o _ (qt.h _))))))
    refine wpQuiet_nil ?_;intro _ M;obtain⟨O,rfl⟩:=M;go_wp2;go_ret;exact⟨by rw[I.o];rfl,ab.o.trans O.h⟩
   | false=>
    by_cases hf:b.room<=(aq:Int)
    ·have I:Hid (xa b d=true):=κ (by rw[Y.o,hk,decide_eq_true hf];rfl);clear Y
     go_enter func101,ntmps101
     go_wp2_with (go_at_call 149;(go_call ux b R _ _ H.o ⟨ag,ah⟩ as e w1 ⟨rfl,rfl⟩;rw[ae.o]))
     rw[<-G];clear G H aa;generalize w.heap.size=B2 at *;refine qD W (qa.refl _) ξ ξ ?_
     repeat (go_big_quiet_step ((go_at_call 150;with_reducible exact j6 (xt _ _ (zX b d) ai b.holds _ (R+1) _ (J.o.more (qt.h _)) (aj.o _ (qt.h _))))))
     refine wpQuiet_nil ?_;intro _ M;obtain⟨O,rfl⟩:=M;go_wp2;go_ret;exact⟨by rw[I.o];rfl,ab.o.trans O.h⟩
    ·have I:Hid (xa b d=b.holds.any (zX b d)):=κ (by rw[Y.o,hk,decide_eq_false hf];rfl);have aL:decide (b.room<=(aq:Int))=false:=decide_eq_false hf;clear Y hf
     go_enter func101,ntmps101
     go_wp2_with (go_at_call 149;(go_call ux b R _ _ H.o ⟨ag,ah⟩ as e w1 ⟨rfl,rfl⟩;rw[ae.o]))
     rw[<-G];clear G H aa;generalize w.heap.size=B2 at *;refine qD W (qa.refl _) ξ ξ ?_
     repeat (go_big_quiet_step ((go_at_call 150;with_reducible exact j6 (xt _ _ (zX b d) ai b.holds _ (R+1) _ (J.o.more (qt.h _)) (aj.o _ (qt.h _))))))
     refine wpQuiet_nil ?_;intro _ M;obtain⟨O,rfl⟩:=M;go_wp2;go_ret;exact⟨by rw[I.o];rfl,ab.o.trans O.h⟩
end
section
open Go.RowKit Go.Lib
def wK (b:Jb) (n:Int):Int×Int:=if b.begun then zt b.hi b.bits n else (n,1)
def xT (b:Jb):Jb:=match b.holds with
 | []=>b
 | h::T=>{b with holds:=T,begun:=true,hi:=(wK b h.1).1,bits:=(wK b h.1).2}
theorem uY {n:Int} (h:xz n):Mid n:=by obtain⟨d,G⟩:=h;unfold Mid;omega
structure kc (w w':World) (R:Nat) (v v':Value) (b':Jb):Prop where
 buf:xZ w' R v' b'
 away:qg (λk=>k=R∨v.ownBlock=some k) w w'
 own:v'.ownBlock=v.ownBlock∨ ∃g,v'.ownBlock=some g/\w.heap.size<=g
theorem zT.away {w w':World} {base:Nat} {v:Value} {L:List Hd} {S:Nat->Prop} (h:zT w base v L) (a:qg S w w') (G: ∀k,v.ownBlock=some k-> ¬S k):zT w' base v L:=by
 obtain⟨d,H⟩:=h;refine⟨d, ?_⟩;rcases H with h | ⟨g,cap,cur,e1,hb,hg,rest⟩
 ·exact Or.inl h
 ·exact Or.inr ⟨g,cap,cur,e1,hb,a.blk hg (G g (by rw[e1];rfl)),rest⟩
theorem qg.old {w a b:World} {S S':Nat->Prop} (m:qa w a) (h:qg S a b) (G: ∀k,S k->S' k∨w.heap.size<=k):qg S' w b:=
 ⟨h.os.trans m.os,h.tape.trans m.tape,h.output.trans m.output,Nat.le_trans m.size h.size,λk d H=>by
  rw[h.block k (Nat.lt_of_lt_of_le d m.size) (λx=>(G k x).elim H (λy=>by omega))]
  exact m.block k d⟩
theorem zT.own_ge {w:World} {base:Nat} {v:Value} {L:List Hd} (h:zT w base v L) {k:Nat} (d:v.ownBlock=some k):base<=k/\k<w.heap.size:=by
 rcases h.2 with ⟨rfl,_⟩ | ⟨g,cap,cur,rfl,H,G,_⟩
 ·cases d
 ·obtain rfl:g=k:=by injection d
  exact⟨H,lt_of_block G⟩
theorem AK (w:World) (B:Nat) (v0 v1 v2:Value):qg (λk=>k=B) w (((w.setCell ⟨B,0,none⟩ v0).setCell ⟨B,1,none⟩ v1).setCell ⟨B,2,none⟩ v2):=
 (((qg.refl (λk=>k=B) w).set (p:=⟨B,0,none⟩) rfl v0).set (p:=⟨B,1,none⟩) rfl v1).set (p:=⟨B,2,none⟩) rfl v2
theorem ZQ {w w5:World} {R G g I cap N:Nat} {J:Option Addr} {b:Jb} {T:List Hd} {H M O Y aa:Int} {X:Value} (ah:b.holds=(H,M,O)::T) (al:wK b H=(Y,aa))
  (ap:w5.heap[R]? =some (.cells ((yc b X).setIfInBounds 2 (δ J I N)) 194 (0,0))) (ak:w5.heap[G]? =some (.cells #[ι 0,ι 0,ι 0] 282 (0,0)))
  (aj:zT w5 (R+1) (δ J I N) T) (ae:(δ J I N).ownBlock=some g) (ao:qg (λk=>k=R∨k=g) w w5) (aq:w.heap.size<=G) (ar:R<w.heap.size) (av:g≠R) (au:g<w.heap.size)
  {WF:World} (e:((((((w5.setCell ⟨R,4,none⟩ (ι Y)).setCell ⟨R,5,none⟩ (ψ aa)).setCell ⟨R,3,none⟩ (μ true)).setCell ⟨G,0,none⟩ (ι H)).setCell ⟨G,1,none⟩ (ι M)).setCell ⟨G,2,none⟩ (ι O))=WF):
  WF.cell? ⟨G,0,none⟩=some (ι H)/\WF.cell? ⟨G,1,none⟩=some (ι M)/\WF.cell? ⟨G,2,none⟩=some (ι O)/\kc w WF R (δ (some ⟨g,0,none⟩) (I+1) cap) (δ J I N) (xT b):=by
 obtain⟨w6,ac⟩:=ν (((w5.setCell ⟨R,4,none⟩ (ι Y)).setCell ⟨R,5,none⟩ (ψ aa)).setCell ⟨R,3,none⟩ (μ true));rw[ac] at e;have ag:=qp (qp (qp ap 4 (ι Y)) 5 (ψ aa)) 3 (μ true);rw[ac] at ag;have ad:qg (λk=>k=R) w5 w6:=by
  rw[<-ac];exact(((qg.refl (λk=>k=R) w5).set (p:=⟨R,4,none⟩) rfl _).set (p:=⟨R,5,none⟩) rfl _).set (p:=⟨R,3,none⟩) rfl _
 have af:R≠G:=by omega
 have an:=ad.blk ak (λx=>af x.symm);have U:=AK w6 G (ι H) (ι M) (ι O);have ab:=qp (qp (qp an 0 (ι H)) 1 (ι M)) 2 (ι O);rw[e] at U ab;have ai:=U.blk ag af;refine⟨qb ab 0 rfl,qb ab 1 rfl,qb ab 2 rfl,⟨qB ai ?_, ?_⟩, ?_,Or.inl (by rw[ae];rfl)⟩
 ·simp only[xT,ah,al];rfl
 ·have:zT WF (R+1) (δ J I N) T:=(aj.away ad (λk d x=>by rw[ae] at d;injection d with d;omega)).away U (λk d x=>by rw[ae] at d;injection d with d;omega);simp only[xT,ah];exact this
 ·have am:qg (λk=>k=R∨k=g∨k=G) w WF:=(ao.mono λk d=>d.elim Or.inl (λx=>Or.inr (Or.inl x))).trans ((ad.mono λk d=>Or.inl d).trans (U.mono λk d=>Or.inr (Or.inr d)));refine qg.old (qa.refl w) am λk d=> ?_
  rcases d with d | d | d
  ·exact Or.inl (Or.inl d)
  ·exact Or.inl (Or.inr (by rw[d];rfl))
  ·exact Or.inr τ
theorem Z9 (b:Jb) (h:Hd) (T:List Hd) (aq:b.holds=h::T) (aB:JOK b) (R:Nat) (v:Value) (w:World) (an:xZ w R v b):
  Calls prog 164 #[γ R] w λe w'=>e= .returned (θ #[ι h.1,ι h.2.1,ι h.2.2])/\ ∃v',kc w w' R v v' (xT b):=by
 obtain⟨J,Y,aa⟩:=h;have bv:=(aB.nums (J,Y,aa) (by rw[aq];exact List.mem_cons_self)).1;have bt:=uY bv;have bz:=uY aB.hi;have bL:b.holds.length=T.length+1:=by rw[aq];rfl
 obtain⟨W2,aw⟩: ∃W2,W2=(w.alloc (.cells #[ι 0,ι 0,ι 0] 282)).alloc (.cells #[ι J,ι Y,ι aa] 282):=⟨_,rfl⟩;have av:qa w W2:=by rw[aw];exact(qa.alloc w _).al _
 have au:=an.row;rw[aq] at au;obtain⟨g,cap,rfl,bM,bc,ba⟩:=au.cell 0 η;obtain⟨bw,bs,bB⟩:=ba _ (qa.alloc w (.cells #[ι 0,ι 0,ι 0] 282));rw[Nat.zero_mul] at bw bs bB;have bA:=(an.on (qa.alloc w (.cells #[ι 0,ι 0,ι 0] 282))).cells ⟨_,qa.refl _⟩;obtain⟨_,_,aX,_,_,_⟩:=bA;have bx:=(an.on ((qa.alloc w (.cells #[ι 0,ι 0,ι 0] 282)).al (.cells #[ι J,ι Y,ι aa] 282))).cells ⟨_,qa.refl _⟩;obtain⟨_,_,aV,_,_,_⟩:=bx;have ax:=κ (au.more av);have aP:=κ (an.on av);have aU:W2.heap[w.heap.size]? =some (.cells #[ι 0,ι 0,ι 0] 282 (0,0)):=by rw[aw];exact qs (qj w _) _
 have be:W2.heap[w.heap.size+1]? =some (.cells #[ι J,ι Y,ι aa] 282 (0,0)):=by rw[aw];exact qC η
 rw[List.length_cons] at aX aV ax aP ⊢;have aS:g≠R:=by omega
 have bf:=lt_of_block an.blk;have bD:=κ av;have bn:=κ aU;have bq:=κ be;obtain⟨d,aJ⟩:=ν (T.length);rw[aJ] at aX aV ax aP ⊢
 have aZ:Hid (∀w',w'=W2->Calls prog 207 #[δ (some ⟨g,0,none⟩) (d+1) cap,ι 0,ι 1] w' λe U=> ∃H I,e= .returned (δ H d I)/\zT U (R+1) (δ H d I) T/\
   U.heap[R]? =some (.cells (yc b (δ (some ⟨g,0,none⟩) (d+1) cap)) 194 (0,0))/\U.heap[w.heap.size]? =some (.cells #[ι 0,ι 0,ι 0] 282 (0,0))/\U.heap[w.heap.size+1]? =some (.cells #[ι J,ι Y,ι aa] 282 (0,0))/\
   qg (λk=>k=g) w U/\(δ H d I).ownBlock=some g):=κ λw' e=>by
  subst e;refine(Vc (J,Y,aa) T _ (R+1) _ ax.o).mono ?_;rintro e U ⟨v3,rfl,ad,a3,af⟩;obtain⟨H,I,rfl,_⟩:=ad.shape;rw[aJ] at ad af ⊢;have key: ∀k,(δ (some ⟨g,0,none⟩) (d+1) cap).ownBlock=some k->k=g:=λk M=>by injection M with M;exact M.symm
  have bu:w'.heap[R]? =some (.cells (yc b (δ (some ⟨g,0,none⟩) (d+1) cap)) 194 (0,0)):=aP.o.blk;exact⟨H,I,rfl,ad,a3.blk bu (λx=>aS (key _ x).symm),a3.blk bn.o (λx=>by have:=key _ x;omega),a3.blk bq.o (λx=>by have:=key _ x;omega),qg.old bD.o a3 (λk M=>Or.inl (key _ M)),af⟩
 have bd:=κ aw;have aW:=κ aq;clear ba ax av aU be aq bL au aJ;cases hbg:b.begun with
 | false=>
  have ai:=κ hbg;clear hbg
  go_enter func164,ntmps164
  go_wp2_with (first | (go_at_call 207;(go_call aZ.o _ bd.o.symm as e U ⟨H,I,rfl,ad,N,ar,aj,a3,af⟩;have aF:=κ N;have aK:=κ ar;have aN:=κ aj;have aH:=κ ad;have aG:=κ a3;have ap:=κ af;unfold yc at N;rw[ai.o] at N;have aO:=qb N 2 rfl;have aI:=qd N 2;have aE:=qb N 3 rfl;have z3:=qd N 3;have aA:=qb aj 0 rfl;clear N ar aj a3 af ad)) | (go_at_call 209;(go_call Ya J _ as e w5 ⟨rfl,ag⟩;have G:=qc ag (qp aF.o 2 (δ H d I));have O:=qc ag (qo aK.o ⟨R,2,none⟩ (δ H d I) (by simp;omega));have ab:=qc ag (qo aN.o ⟨R,2,none⟩ (δ H d I) (by simp;omega));have aD:=κ G;have az:=κ O;have bN:=κ ab;have ac:=κ ag;unfold yc at G;rw[ai.o] at G;have bK:=qb G 3 rfl;have bo:=qb G 4 rfl;have bj:=qb G 5 rfl;have bk:=qd G 3;have bg:=qd G 4;have bJ:=qd G 5;have bm:=qb O 0 rfl;have bE:=qb O 1 rfl;have p2:=qb O 2 rfl;have bp:=qd O 0;have bC:=qd O 1;have br:=qd O 2;have t0:=qb ab 0 rfl;have t1:=qb ab 1 rfl;have t2:=qb ab 2 rfl;clear G O ab ag aO aI aE z3 aA)))
  have ao:zT w5 (R+1) (δ H d I) T:=(aH.o.away ((qg.refl (λk=>k=R) U).set (p:=⟨R,2,none⟩) rfl (δ H d I)) (λk M x=>by rw[ap.o] at M;injection M with M;omega)).more ac.o;have am:qg (λk=>k=R∨k=g) w w5:=((aG.o.mono λk M=>Or.inr M).trans ((qg.refl (λk=>k=R∨k=g) U).set (p:=⟨R,2,none⟩) (Or.inl rfl) (δ H d I))).more ac.o;obtain⟨WF,ah⟩:=ν (((((((w5.setCell ⟨R,4,none⟩ (ι J)).setCell ⟨R,5,none⟩ (ψ 1)).setCell ⟨R,3,none⟩ (μ true)).setCell ⟨w.heap.size,0,none⟩ (ι J)).setCell ⟨w.heap.size,1,none⟩ (ι Y)).setCell ⟨w.heap.size,2,none⟩ (ι aa)));obtain⟨aQ,ay,aC,st⟩:=ZQ (cap:=cap) aW.o (show wK b J=(J,1) by unfold wK;rw[ai.o];rfl) aD.o az.o ao ap.o am (Nat.le_refl _) bf aS bc ah;rw[ah];clear ah ao am
  (refine bodyPost_ret (v:= θ #[ι J,ι Y,ι aa]) ?rr1 rfl ?_;(case rr1=>(simp[results,results164,go_sem,aQ,ay,aC])))
  exact⟨rfl,_,st⟩
 | true=>
  have ai:=κ hbg;clear hbg
  go_enter func164,ntmps164
  go_wp2_with (go_at_call 207;(go_call aZ.o _ bd.o.symm as e U ⟨H,I,rfl,ad,N,ar,aj,a3,af⟩;have aF:=κ N;have aK:=κ ar;have aN:=κ aj;have aH:=κ ad;have aG:=κ a3;have ap:=κ af;unfold yc at N;rw[ai.o] at N;have aO:=qb N 2 rfl;have aI:=qd N 2;have aE:=qb N 3 rfl;have z3:=qd N 3;have aA:=qb aj 0 rfl;clear N ar aj a3 af ad))
  generalize ak:U.setCell ⟨R,2,none⟩ (δ H d I)=w4 at *;have aL:w4.heap[R]? =some (.cells ((yc b (δ (some ⟨g,0,none⟩) (d+1) cap)).setIfInBounds 2 (δ H d I)) 194 (0,0)):=by rw[<-ak];exact qp aF.o 2 _
  have aT:w4.heap[w.heap.size]? =some (.cells #[ι 0,ι 0,ι 0] 282 (0,0)):=by rw[<-ak];exact qo aK.o ⟨R,2,none⟩ (δ H d I) (by simp;omega)
  have aM:w4.heap[w.heap.size+1]? =some (.cells #[ι J,ι Y,ι aa] 282 (0,0)):=by rw[<-ak];exact qo aN.o ⟨R,2,none⟩ (δ H d I) (by simp;omega)
  have aY:zT w4 (R+1) (δ H d I) T:=by
   rw[<-ak];exact aH.o.away ((qg.refl (λk=>k=R) U).set (p:=⟨R,2,none⟩) rfl (δ H d I)) (λk M x=>by rw[ap.o] at M;injection M with M;omega)
  have a4:qg (λk=>k=R∨k=g) w w4:=by
   rw[<-ak];exact(aG.o.mono λk M=>Or.inr M).trans ((qg.refl (λk=>k=R∨k=g) U).set (p:=⟨R,2,none⟩) (Or.inl rfl) (δ H d I))
  have bI:=κ aL;have bh:=κ aT;have bH:=κ aM;have bG:=κ aY;have bl:=κ a4;have aR:=λ(x:qt w4)=>qc x.h aL
  have bi:=λx=>β4 (aR x);have bF:=λx=>β5 (aR x);clear aR
  have c1:=λ(x:qt w4)=>β0 (qc x.h aM)
  clear aL aT aM aY a4 ak aO aI aE z3 aA;refine Qn w4 10 11 [7,8,10] ?_
  refine Qq ?_
  (refine Ql ?_;intro K ae)
  refine(gS b.hi b.bits J bz bt aB.bits _).mono ?_;rintro e w5 ⟨rfl,ag⟩;have ac:qa w4 w5:=(qa.drewN w4 1).trans ag;refine⟨_,rfl,qk ac,ae _ _ ?_⟩;clear ae K ag
  (refine Ql ?_;intro K ae)
  refine⟨qk ac,ae _ _ ?_⟩;clear ae K
  refine Qq ?_
  have G:=qc ac bI.o;have O:=qc ac bh.o;have ab:=qc ac bH.o;have aD:=κ G;have az:=κ O;have bb:=κ ac;unfold yc at G;rw[ai.o] at G;have bK:=qb G 3 rfl;have bo:=qb G 4 rfl;have bj:=qb G 5 rfl;have bk:=qd G 3;have bg:=qd G 4;have bJ:=qd G 5;have bm:=qb O 0 rfl;have bE:=qb O 1 rfl;have p2:=qb O 2 rfl;have bp:=qd O 0;have bC:=qd O 1;have br:=qd O 2;have t0:=qb ab 0 rfl;have t1:=qb ab 1 rfl;have t2:=qb ab 2 rfl;clear G O ab ac bi bF c1
  (refine Qe ?_;intro K ae)
  refine ae _ _ ?_;clear ae K;refine qA ?_;go_wp2;have ao:zT w5 (R+1) (δ H d I) T:=bG.o.more bb.o;have am:qg (λk=>k=R∨k=g) w w5:=bl.o.more bb.o;obtain⟨WF,ah⟩:=ν (((((((w5.setCell ⟨R,4,none⟩ (ι (zt b.hi b.bits J).1)).setCell ⟨R,5,none⟩ (ψ (zt b.hi b.bits J).2)).setCell ⟨R,3,none⟩ (μ true)).setCell ⟨w.heap.size,0,none⟩ (ι J)).setCell ⟨w.heap.size,1,none⟩ (ι Y)).setCell ⟨w.heap.size,2,none⟩ (ι aa)));obtain⟨aQ,ay,aC,st⟩:=ZQ (cap:=cap) aW.o (show wK b J=((zt b.hi b.bits J).1,(zt b.hi b.bits J).2) by unfold wK;rw[ai.o];rfl) aD.o az.o ao ap.o am (Nat.le_refl _) bf aS bc ah;rw[ah];clear ah ao am
  (refine bodyPost_ret (v:= θ #[ι J,ι Y,ι aa]) ?rr2 rfl ?_;(case rr2=>(simp[results,results164,go_sem,aQ,ay,aC])))
  exact⟨rfl,_,st⟩
end
section
open Go.RowKit Go.Lib
def atJ (L:List Hd) (n:Int):Nat:=L.findIdx λk=>decide (n<k.1)
def ue (L:List Hd) (h:Hd):List Hd:=L.take (atJ L h.1)++h::L.drop (atJ L h.1)
def JM (b:Jb) (n:Int):Bool:=b.holds.any λk=>k.1==n
def jP (b:Jb) (n now x:Int):Jb×Int:=
 if JM b n||(b.begun&&yi b.hi b.bits n) then (b,10)
 else if b.begun&&decide (n<b.hi+1) then (b,9)
 else if b.room<=b.holds.length then (b,8)
 else ({b with holds:=ue b.holds (n,now,x)},0)
theorem Ua (L:List Hd) (n:Int):atJ L n<=L.length:=List.findIdx_le_length
theorem Fx (L:List Hd) (n:Int):(Jk (λk=>decide (n<k.1)) L=(atJ L n:Int)/\atJ L n<L.length)∨(Jk (λk=>decide (n<k.1)) L= -1/\atJ L n=L.length):=by
 unfold Jk;have:=Ua L n;unfold atJ at *;by_cases h:L.findIdx (λk=>decide (n<k.1))<L.length
 ·left;rw[if_pos h];exact⟨rfl,h⟩
 ·right;rw[if_neg h];exact⟨rfl,τ⟩
theorem kc.keep {w w':World} {R:Nat} {v:Value} {b:Jb} (m:qa w w') (d:xZ w' R v b):kc w w' R v v b:=⟨d,qg.of_more m,Or.inl rfl⟩
end
end Go.Proofs.YtdgippmmaponfaaGreat
