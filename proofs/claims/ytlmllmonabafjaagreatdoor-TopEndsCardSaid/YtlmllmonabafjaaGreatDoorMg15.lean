/- Contracts of the functions that the law reaches, and plain laws; no conditions but those written at each. -/
import Derived.Test.YtlmllmonabafjaaGreatDoorMg14
import Derived.ChangeKeysEq
import Derived.Outline
namespace Go.Proofs.YtlmllmonabafjaaGreatDoor
open Go.Value renaming bool->μ,slice->δ,pointer->π,agg->θ
open Go.IntKind renaming i64->ι,u8->υ,u16->φ,u32->ω,i32->χ,u64->ψ
open _root_.Go.Proofs.Tryz
set_option linter.unusedSimpArgs false
set_option maxHeartbeats 8000000
set_option linter.unusedVariables false
open Go.RowKit
set_option maxRecDepth 100000
theorem Ip: ∀(w:World) (cs:List Value) (y:Int×List Int),ROu w cs y-> ∀u∈cs,u.oneCell'=true:=by
 rintro w cs y ⟨v,rfl,⟨G,cap,rfl,_⟩,_⟩ u d;simp at d;rcases d with rfl | rfl<;>rfl
theorem ED (w:World):je 2 ROu (λ_=>False) (w.alloc (.cells #[] 56)) w.heap.size 56 (δ (some ⟨w.heap.size,0,none⟩) 0 0) []:=
 ⟨⟨[],by simpa using World.ownsRow_lit (e:=56) (size:=2) (base:=w.heap.size) w #[] 0 (Nat.le_refl _) (by unfold maxLen;omega) rfl,λi hi=>by simp at hi⟩,λ_ _ h=>h⟩
theorem Fu (v:Value) (l:List (Int×List Int)) (w:World) (h:SlP 2 ROu w v l) (H:l.length<=1000000):
  Calls prog 108 #[v] w λe w'=>(∃v',e= .returned v'/\je 2 ROu (λ_=>False) w' w.heap.size 56 v' l)/\qa w w':=by
 obtain⟨ak,hi,ah,ai,aj⟩:=info_parts (P:=prog) (e:=56) (z:= Γs) (size:=2) (bytes:=32) ξ;have I:=κ h;have ac:=κ H;obtain⟨al,cap,rfl,J,N,O,U,d⟩:=h;cases al with
 | none=>
  obtain rfl:cap=0:=d rfl;obtain rfl:l=[]:=List.eq_nil_of_length_eq_zero τ;clear I J N O U d H;have ag:=λw=>Lib.run_eql_slice_nil (P:=prog) w 53 56 none 0 0 0 0 underlying53
  go_enter func108,ntmps108
  go_wp2;go_ret;exact⟨⟨_,rfl,je.nil 2 ROu _ _ _ _⟩,qa.refl _⟩
 | some ad=>
  clear J N O U d H;have ag:=λw=>Lib.run_eql_slice_nil (P:=prog) w 53 56 (some ad) l.length cap 0 0 underlying53
  go_enter func108,ntmps108
  go_wp2_with (at_builtin;refine ym w _ rfl (.tmp 5) (.tmp 6) 53 rfl w.heap.size 56 ak (Γs) 2 32 underlying53 hi ah ai aj rfl ζ Ff Ip _ [] rfl (ED w) _ l rfl I.o (qa.alloc _ _) (λb G=>by cases G;exact Nat.le_refl _) ζ (by have:=ac.o;simp;omega) (qa.alloc w _).size ?_;intro v2 w2 aa Y af;have ae:=κ aa;have ab:Hid (qg (λb=>(δ (some ⟨w.heap.size,0,none⟩) 0 0).ownBlock=some b) (w.alloc (.cells #[] 56)) w2):=κ (qg.of_grown Y);clear aa Y af)
  go_ret;refine⟨⟨_,rfl,by simpa using ae.o⟩, ?_⟩;exact((qg.of_more (S:=λb=>b=w.heap.size) (qa.alloc w _)).trans (ab.o.mono λb G=>by injection G with e;exact e.symm)).to_more (qa.refl _) (λk e=>by rw[e];exact Nat.le_refl _)
theorem Bv {w:World} {base d e n m:Nat} {v:Value} {xs:List Value} (h:w.ownsRow base e n v m xs) (I:d<=base):w.ownsRow d e n v m xs:=by
 obtain⟨G,H⟩:=h;refine⟨G, ?_⟩;rcases H with h | ⟨g,cap,cur,e1,h3,h4⟩
 ·exact Or.inl h
 ·exact Or.inr ⟨g,cap,cur,e1,Nat.le_trans I h3,h4⟩
theorem WP {S:Nat->Prop} {w w':World} {base e n m:Nat} {v:Value} {xs:List Value} (h:w.ownsRow base e n v m xs) (a:qg S w w') (H: ∀b,v.ownBlock=some b-> ¬S b):w'.ownsRow base e n v m xs:=by
 obtain⟨d,G⟩:=h;refine⟨d, ?_⟩;rcases G with h | ⟨g,cap,cur,e1,h3,h4,h5⟩
 ·exact Or.inl h
 ·exact Or.inr ⟨g,cap,cur,e1,h3,a.blk h4 (H g (by rw[e1];rfl)),h5⟩
def zl (w0 w:World) (v:Value) (W:List (Int×List Int)) (j:Nat):Prop:=
 ∃xs,w.ownsRow w0.heap.size 56 2 v W.length xs/\ ∀i (hi:i<W.length),∃u,xs[i* 2]? =some (.int .i64 (W[i].1))/\xs[i* 2+1]? =some u/\
  (∀w',qg (λk=>v.ownBlock=some k) w w'->SlI .u8 w' u (W[i].2))/\(Byt (W[i].2)/\W[i].2.length<=200)/\(i<j->(∀b,u.ownBlock=some b->w0.heap.size<=b/\b<w.heap.size/\v.ownBlock≠some b)/\w.ownsRow w0.heap.size 5 1 u (W[i].2).length ((W[i].2).map (Value.int .u8)))
theorem zl.start {H w:World} {v:Value} {W:List (Int×List Int)} {D:Nat->Prop} (h:je 2 ROu D w H.heap.size 56 v W):zl H w v W 0:=by
 obtain⟨⟨xs,o,r⟩,_⟩:=h;refine⟨xs,o,λi hi=> ?_⟩;obtain⟨u,e,_,I,N⟩:=(r i hi).read;have e0:=congrArg (λl:List Value=>l[0]?) e;have G:=congrArg (λl:List Value=>l[1]?) e;simp at e0 G;refine⟨u,e0,G,λw' a=> ?_,⟨I,N⟩,λh=>absurd h τ⟩;obtain⟨U,d,O,_⟩:=(r i hi) w' (a.mono λk J=>Or.inr J);rw[e] at d;simp at d;rw[d];exact O
theorem zl.more {H w w':World} {v:Value} {W:List (Int×List Int)} {j:Nat} (h:zl H w v W j) (m:qa w w'):zl H w' v W j:=by
 obtain⟨xs,o,r⟩:=h;refine⟨xs,zI o (S:=λ_=>False) (qg.of_more m) (λ_ _ h=>h),λi hi=> ?_⟩;obtain⟨u,I,J,N,O,d⟩:=r i hi;exact⟨u,I,J,λw'' a=>N w'' ((qg.of_more m).trans a),O,λh=>⟨λb G=>⟨((d h).1 b G).1,Nat.lt_of_lt_of_le ((d h).1 b G).2.1 m.size,((d h).1 b G).2.2⟩,zI (d h).2 (S:=λ_=>False) (qg.of_more m) (λ_ _ h=>h)⟩⟩
theorem zl.shape {G w:World} {v:Value} {W:List (Int×List Int)} {j:Nat} (h:zl G w v W j): ∃oa cap,v= δ oa W.length cap:=by
 obtain⟨xs,o,_⟩:=h;rcases o.2 with ⟨rfl,d⟩ | ⟨g,cap,cur,rfl,_⟩
 ·exact⟨none,0,by rw[d]⟩
 ·exact⟨_,cap,rfl⟩
theorem zl.at {I w:World} {H:Option Addr} {n cap:Nat} {W:List (Int×List Int)} {j:Nat} (h:zl I w (δ H n cap) W j) (Y:n=W.length) (i:Nat) (hi:i<W.length):
  ∃g,H=some ⟨g,0,none⟩/\I.heap.size<=g/\g<w.heap.size/\ ∃u,w.cell? ⟨g,i* 2,none⟩=some (ι (W[i].1))/\w.cell? ⟨g,i* 2+1,none⟩=some u/\w.frozen? ⟨g,i* 2+1,none⟩=false/\SlI .u8 w u (W[i].2)/\Byt (W[i].2)/\W[i].2.length<=200:=by
 subst Y;obtain⟨xs,o,r⟩:=h;obtain⟨g,rfl,d,G⟩: ∃g,H=some ⟨g,0,none⟩/\I.heap.size<=g/\g<w.heap.size:=by
  rcases o.2 with ⟨_,aa⟩ | ⟨g,c,cur,e,d,G,_⟩
  ·omega
  ·injection e with e1
   exact⟨g,e1,d,lt_of_block G⟩
 obtain⟨u,J,N,O,U,_⟩:=r i hi;exact⟨g,rfl,d,G,u,by rw[o.cellAt _ τ];exact J,by rw[o.cellAt _ τ];exact N,o.frozenAt _,O w (qg.refl _ _),U⟩
theorem zl.put {J w w1:World} {g n cap:Nat} {W:List (Int×List Int)} {j:Nat} (h:zl J w (δ (some ⟨g,0,none⟩) n cap) W j) (ad:n=W.length) (ak:j<W.length) (m:qa w w1) (aj:g<w.heap.size) (O:J.heap.size<=w.heap.size) {u:Value}
  (G:w1.ownsRow w.heap.size 5 1 u (W[j].2).length ((W[j].2).map (Value.int .u8))):zl J (w1.setCell ⟨g,j* 2+1,none⟩ u) (δ (some ⟨g,0,none⟩) n cap) W (j+1):=by
 subst ad;obtain⟨xs,o,r⟩:=h.more m;obtain⟨os,ae⟩:=o.stored (j* 2+1) u;have a:qg (λk=>some g=some k) w1 (w1.setCell ⟨g,j* 2+1,none⟩ u):=qg.of_grown ae;have aa:(w1.setCell ⟨g,j* 2+1,none⟩ u).heap.size=w1.heap.size:=by simp
 refine⟨_,os,λi hi=> ?_⟩;obtain⟨ai,U,ab,ac,Y,I⟩:=r i hi;have am:xs.length=W.length* 2:=o.1;by_cases e:i=j
 ·subst e;refine⟨u,by rw[List.getElem?_set_ne τ];exact U,by rw[List.getElem?_set_self τ],λw' a'=> ?_,Y,λ_=>⟨λb d=>⟨Nat.le_trans O (vV G d),by rw[aa];exact Vg G d,λH=> ?_⟩,Bv (zI G a (λb d e=> ?_)) O⟩⟩
  ·exact(SlI.of_owns G τ).off (D:=λk=>some g=some k) (λb d H=>by have:=vV G d;have N:g=b:=Option.some.inj H;omega) (a.trans a')
  ·have:=vV G d;have N:g=b:=Option.some.inj H;omega
  ·have N:g=b:=Option.some.inj e;omega
 ·refine⟨ai,by rw[List.getElem?_set_ne τ];exact U,by rw[List.getElem?_set_ne τ];exact ab,λw' a'=>ac w' (a.trans a'),Y,λal=>⟨λb d=> ?_,WP (I τ).2 a (λb d e=>((I τ).1 b d).2.2 e)⟩⟩;obtain⟨af,ag,ah⟩:=(I τ).1 b d;exact⟨af,by rw[aa];exact ag,ah⟩
def ROn (base:Nat):qL (Int×List Int):=λw cs o=> ∃v,cs=[.int .i64 o.1,v]/\SlI .u8 w v o.2/\Byt o.2/\o.2.length<=200/\(∀b,v.ownBlock=some b->base<=b)/\w.ownsRow base 5 1 v o.2.length (o.2.map (Value.int .u8))
theorem zl.done {I w:World} {v:Value} {W:List (Int×List Int)} (h:zl I w v W W.length):je 2 (ROn I.heap.size) (λb=>b<I.heap.size) w I.heap.size 56 v W:=by
 obtain⟨xs,o,r⟩:=h;refine⟨⟨xs,o,λi hi=> ?_⟩,λb G ad=>by have:=vV o G;omega⟩;obtain⟨u,O,U,Y,N,H⟩:=r i hi;have aa:(xs.drop (i* 2)).take 2=[ι (W[i].1),u]:=by
  apply List.ext_getElem?;intro k
  match k with
  | 0=>simpa using O
  | 1=>simpa using U
  | k+2=>
   rw[List.getElem?_eq_none (by rw[List.length_take];omega),List.getElem?_eq_none η]
 intro w' a;refine⟨u,aa, ?_,N.1,N.2,λb G=>((H hi).1 b G).1,WP (H hi).2 a (λb G d=> ?_)⟩
 ·refine(Y w (qg.refl _ _)).off (λb G d=> ?_) a;obtain⟨ab,ac,J⟩:=(H hi).1 b G;rcases d with d | d
  ·omega
  ·exact J d
 ·obtain⟨ab,ac,J⟩:=(H hi).1 b G;rcases d with d | d
  ·omega
  ·exact J d
section
variable {N:Nat->Prop} {w w':World} {k:LnB} {vo:Value} {s:LnS}
theorem Ug (h:LnX N w k vo s) (ab:s.W.length<=1000000):Calls prog 48 #[γ k.L] w λe w'=>(∃v,e= .returned v/\je 2 (ROn w.heap.size) (λb=>b<w.heap.size) w' w.heap.size 56 v s.W)/\qa w w':=by
 have az:w.cell? ⟨k.L,0,none⟩=some vo:=qb h.blk 0 rfl;have ah:=κ (Fu vo s.W w (h.o.sl ζ) ab);have aA:(s.W.length:Int)<=9223372036854775807:=by omega
 clear h ab
 go_enter func48,ntmps48
 go_wp2_with (go_at_call 108;(go_call ah.o as e w1 ⟨⟨v1,rfl,U⟩,af⟩;have am:=κ (zl.start U);have ak:=κ af;obtain⟨av,cap,rfl⟩:=(zl.start U).shape;clear U af))
 go_loopw [12] (λJ wr=> ∃j:Nat,j<=s.W.length/\J= ι j/\zl w wr (δ av s.W.length cap) s.W j/\qa w wr) (λJ _=>s.W.length-(intOf J).toNat)
 case atStart=>exact⟨0,τ,rfl,am.o,ak.o⟩
 case round=>
  obtain⟨j,aB,rfl,ae,ad⟩:=hrel;have d:=κ ae;have H:=κ ad;clear ae ad;by_cases hlt:j<s.W.length
  ·have aC:(j:Int)<(s.W.length:Int):=by omega
   obtain⟨g,rfl,ac,ap,u,ax,ay,aG,I,ao,ar⟩:=d.o.at rfl j hlt;have Y:=κ ap;have aj:=κ ac;have ai:=κ (wQ u _ wr I τ);have au:w.heap.size<=wr.heap.size:=H.o.size;obtain⟨aw,an,rfl,_⟩:=id I;clear I ao ar ac ax
   go_wp2_with (go_at_call 50;(go_call ai.o as e ag ⟨⟨v3,rfl,O⟩,G⟩;have al:=κ O;have aa:=κ G;have aF:ag.cell? ⟨g,j* 2+1,none⟩=some (δ aw (s.W[j].2).length an):=(by rw[G.cells _ _ Y.o];exact ay);have p2:ag.frozen? ⟨g,j* 2+1,none⟩=false:=((d.o.more G).at rfl j hlt |>.elim λg' aq=>by obtain⟨e,_,_,_,_,_,f,_⟩:=aq;injection e with e;injection e with e;subst e;exact f);obtain⟨aE,c4,rfl⟩:=zA O;clear O G))
   go_roundw
   case rel=>exact⟨j+1,τ,by go_num,d.o.put rfl hlt aa.o Y.o au al.o,(H.o.trans aa.o).st aj.o _⟩
   case measure=>simp[intOf];omega
  ·obtain rfl:j=s.W.length:=by omega
   have aD: ¬(s.W.length:Int)<(s.W.length:Int):=by omega
   go_wp2;go_ret;exact⟨⟨_,rfl,d.o.done⟩,H.o⟩
end
section
variable {N:Nat->Prop} {w:World} {L:Nat} {s:LnS}
theorem JB (h:zw N w L s):Calls prog 69 #[γ L] w λe w'=>e= .returned (μ s.gone)/\qa w w':=by
 obtain⟨k,vo,rfl,x⟩:=h;exact gF x
theorem Iv (h:zw N w L s) (n:Int) (d:n=1∨n=2∨n=3):Calls prog 74 #[γ L,ι n] w λe w'=>e= .returned (μ (vC s n))/\qa w w':=by
 obtain⟨k,vo,rfl,x⟩:=h;rcases d with rfl | rfl | rfl
 ·exact YA x
 ·exact Yz x
 ·exact Jy x
theorem ES (h:zw N w L s):Calls prog 68 #[γ L] w λe w'=>e= .returned (θ #[ι s.A.length,ι s.B.length,ι s.C.length])/\qa w w':=by
 obtain⟨k,vo,rfl,x⟩:=h;exact ER x
theorem Xb (h:zw N w L s):Calls prog 67 #[γ L] w λe w'=>e= .returned (.tuple #[θ #[ι s.cur,ι s.tgt],s.wanted])/\qa w w':=by
 obtain⟨k,vo,rfl,x⟩:=h;exact AJ x
theorem Ed (h:zw N w L s) (n:Int):Calls prog 91 #[γ L,ι n] w λe w'=>e= .returned (ι (jO s n).2)/\zw (xf N w w') w' L (jO s n).1/\qg N w w':=by
 obtain⟨k,vo,rfl,x⟩:=h;refine(Ec x n).mono ?_;rintro e w' ⟨rfl,d,G⟩;exact⟨rfl,⟨k,vo,rfl,d⟩,G⟩
theorem Df (h:zw N w L s):Calls prog 137 #[γ L] w λe w'=>e= .returned (.tuple #[ι (jf s).2.1,ι (jf s).2.2.1,μ (jf s).2.2.2])/\zw (xf N w w') w' L (jf s).1/\qg N w w':=by
 obtain⟨k,vo,rfl,x⟩:=h;refine(De x).mono ?_;rintro e w' ⟨rfl,d,G⟩;exact⟨rfl,⟨k,vo,rfl,d⟩,G⟩
theorem Uv (h:zw N w L s):Calls prog 138 #[γ L] w λe w'=>e= .returned (.tuple #[ι (qY s).2.1,μ (qY s).2.2.1,μ (qY s).2.2.2])/\zw (xf N w w') w' L (qY s).1/\qg N w w':=by
 obtain⟨k,vo,rfl,x⟩:=h;refine(Uu x).mono ?_;rintro e w' ⟨rfl,d,G⟩;exact⟨rfl,⟨k,vo,rfl,d⟩,G⟩
theorem As (h:zw N w L s) (H:s.W.length<=1000000) (acc:Bool):Calls prog 121 #[γ L,acc] w λe w'=>e= .returned (.tuple #[ι (qX s acc).2.1,ι (qX s acc).2.2.1,μ (qX s acc).2.2.2])/\zw (xf N w w') w' L (qX s acc).1/\qg N w w':=by
 obtain⟨k,vo,rfl,x⟩:=h;refine(Ar x H acc).mono ?_;rintro e w' ⟨rfl,vo',d,G⟩;exact⟨rfl,⟨k,vo',rfl,d⟩,G⟩
theorem Ij (h:zw N w L s) (x:ItS) (os H I:Option Addr) (G ke d:Nat) (Y:PkS w (δ os x.pk.ss.length G) (δ H x.pk.ex.length ke) (δ I x.pk.pl.length d) x.pk) (U:uf x.pk) (aa:uj x.pk):
  Calls prog 136 #[γ L,(Γj x os G H ke I d)] w λe w'=>e= .returned (.tuple #[ι (xp s x).2.1,μ (xp s x).2.2.1,ι (xp s x).2.2.2])/\zw (xf N w w') w' L (xp s x).1/\qg N w w':=by
 obtain⟨k,vo,rfl,ab⟩:=h;refine(Ii ab x os H I G ke d Y U aa).mono ?_;rintro e w' ⟨rfl,J,O⟩;exact⟨rfl,⟨k,vo,rfl,J⟩,O⟩
theorem Uh (h:zw N w L s) (d:s.W.length<=1000000):Calls prog 48 #[γ L] w λe w'=>(∃v,e= .returned v/\je 2 (ROn w.heap.size) (λb=>b<w.heap.size) w' w.heap.size 56 v s.W)/\qa w w':=by
 obtain⟨k,vo,rfl,x⟩:=h;exact Ug x d
end
theorem LL (w:World):(zeroValue 35).run prog w= .ok (δ none 0 0) w:=by kernel_rfl
theorem IU (w:World) (A i c:Nat) (v:Value) (d:w.cell? ⟨A,i,none⟩=some v) (G:w.frozen? ⟨A,i,none⟩=false):
  (Builtin.clear_ #[225] 0 #[δ (some ⟨A,i,none⟩) 1 c]).run prog w= .ok (.tuple #[]) (w.setCell ⟨A,i,none⟩ (δ none 0 0)):=by
 have H:=LL w;unfold Builtin.clear_;simp[run_underlying underlying225,H,Value.cells,Builtin.zeroCells,storeCells,Addr.add,d,G,go_sem]
theorem VP: ∀(css:List (List Value)) (i:Nat) (z:Value),(∀c∈css,c.length=1)->css.flatten.set i z=(css.set i [z]).flatten
 | [],i,z,_=>by simp
 | c::css,0,z,h=>by
  obtain⟨x,rfl⟩:=List.length_eq_one_iff.1 (h c η);simp
 | c::css,i+1,z,h=>by
  obtain⟨x,rfl⟩:=List.length_eq_one_iff.1 (h c η);simp[VP css i z (λc d=>h c (by simp[d]))]
section
variable {w:World} {R A room first:Nat} {q:List (List Value)} {ci co cd cg:Int} {css:List (List Value)}
abbrev zR:=qN 1 229 35
theorem qN.cellY (h:zR w R A room first q ci co cd cg css) {i:Nat} (hi:i<room): ∃v,css.getD i []=[v]/\w.cell? ⟨A,i,none⟩=some v:=by
 have G:i<css.length:=by rw[h.len];exact hi
 have d:css.getD i []=css[i]:=by simp[G]
 obtain⟨v,H⟩:=List.length_eq_one_iff.1 (h.cl css[i] (List.getElem_mem G));refine⟨v,by rw[d];exact H, ?_⟩;have:=h.range hi 0 v (by rw[d,H];rfl)
 simpa using this
theorem qN.setY (h:zR w R A room first q ci co cd cg css) (i:Nat) (z:Value):(w.setCell ⟨A,i,none⟩ z).heap[A]? =some (.cells (css.set i [z]).flatten.toArray 35 (0,0)):=by
 refine qB (qp h.row i z) ?_;rw[<-VP css i z h.cl];simp
theorem Ng (h:zR w R A room first q ci co cd cg css):
  Calls prog 66 #[γ R] w λe w'=>e= .returned (ι q.length)/\w'=w:=by
 have d:w.cell? ⟨R,2,none⟩=some (ι q.length):=qb h.ring 2 rfl;clear h
 go_enter func66,ntmps66
 go_wp2;go_ret;exact⟨rfl,rfl⟩
theorem He (h:zR w R A room first q ci co cd cg css):
  Calls prog 139 #[γ R] w λe w'=>e= .returned (μ (decide (q.length=room)))/\ ∃k,w'=w.drewN k:=by
 have H:w.cell? ⟨R,0,none⟩=some (δ (some ⟨A,0,none⟩) room room):=qb h.ring 0 rfl;have I:w.cell? ⟨R,2,none⟩=some (ι q.length):=qb h.ring 2 rfl;have G:((q.length:Int)==(room:Int))=decide (q.length=room):=by by_cases e:q.length=room<;>simp[e];omega
 clear h
 go_enter func139,ntmps139
 go_wp2;refine wp_region_quiet_lit ξ ξ ?_
 repeat (go_big_quiet_step (fail))
 refine wpQuiet_nil ?_;intro _ d;obtain⟨nq,rfl⟩:=d;go_wp2;go_ret;exact⟨rfl,nq,rfl⟩
theorem BJ (m:Int) (d:m<1∨8<m) (w:World):
  Calls prog 40 #[ι m] w λe w'=>e= .returned (.tuple #[π none,ι 1])/\qa w w':=by
 go_enter func40,ntmps40
 go_wp2
 all_goals (refine bodyPost_ret (v:= .tuple #[π none,ι 1]) (by simp[results,results40,go_sem]) rfl ?_;exact⟨rfl,ρ⟩)
theorem mkY (n:Nat) (N:1<=n) (O:n<=8) (w:World):
  (Instr.makeSlice 225 (ι (n:Int)) (ι (n:Int))).run prog w= .ok (δ (some ⟨w.heap.size,0,none⟩) n n) (w.alloc (.cells (List.replicate n [δ none 0 0]).flatten.toArray 35)):=by
 obtain⟨J,hi,G,H,I⟩:=info_parts (P:=prog) (e:=35) (z:= δ none 0 0) (size:=1) (bytes:=24) ξ;have d:=run_make (P:=prog) w 225 35 J (δ none 0 0) underlying225 hi G .i64 .i64 n n τ τ (by rw[I];omega) τ;rw[d];simp only[Int.toNat_natCast,H];rw[Yq _ 1 n rfl ζ];rfl
theorem ZK (m:Int) (n:Nat) (I:m=n) (d:1<=n) (G:n<=8) (w:World):
  Calls prog 40 #[ι m] w λe w'=>e= .returned (.tuple #[γ (w.heap.size+1),ι 0])/\zR w' (w.heap.size+1) w.heap.size n 0 [] 0 0 0 0 (List.replicate n [δ none 0 0])/\qa w w':=by
 subst I;have J:1<=(n:Int):=by omega
 go_enter func40,ntmps40
 have N:=mkY n d G;go_wp2;refine bodyPost_ret (v:= .tuple #[γ (w.heap.size+1),ι 0]) (by simp[results,results40,go_sem]) rfl ?_;refine⟨rfl, ?_,ρ⟩;exact⟨qC η,qs (qB (qj _ _) (by have:(List.replicate n [δ none 0 0]).flatten=List.replicate n (δ none 0 0):=η;rw[this];simp)) _,τ,η,λc H=>by rw[List.eq_of_mem_replicate H];exact⟨rfl,by simp[Value.oneCell']⟩,⟨d,G⟩,τ,η,λi hi=>by simp at hi⟩
theorem DI (w:World) (R A room first:Nat) (ad:Option Addr) (af ae:Nat) (T:List (List Value)) (aa ab U Y:Int) (css:List (List Value)) (h:zR w R A room first ([δ ad af ae]::T) aa ab U Y css):
  Calls prog 140 #[γ R] w λe w'=>e= .returned (δ ad af ae)/\zR w' R A room ((first+1)%room) T aa ab U Y (css.set first [δ none 0 0])/\qg (RgB R A) w w':=by
 have d:=κ h;have av:w.cell? ⟨R,0,none⟩=some (δ (some ⟨A,0,none⟩) room room):=qb h.ring 0 rfl;have aw:w.cell? ⟨R,1,none⟩=some (ι first):=qb h.ring 1 rfl;obtain⟨v,J,a0⟩:=h.cellY h.fst;rw[h.head] at J;injection J with J
 subst J;have ao:=h.fst;have ap:(first:Int)<(room:Int):=by omega
 have aq:0<=(first:Int):=by omega
 have ar:=h.pos.1;have au:=h.pos.2;have I:R<w.heap.size:=qn h.ring;have H:=h.ne;clear h
 go_enter func140,ntmps140
 go_wp2;refine wp_region_quiet_lit ξ ξ ?_
 repeat (go_big_quiet_step (fail))
 refine wpQuiet_nil ?_;intro _ ak;obtain⟨nq,rfl⟩:=ak
 go_wp2_with fail
 have N: ∀x:qz (λb=>b=A) w,x.w'.cell? ⟨R,0,none⟩=some (δ (some ⟨A,0,none⟩) room room):=λx=>x.cell I H (qb d.o.ring 0 rfl)
 have O: ∀x:qz (λb=>b=A) w,x.w'.cell? ⟨R,1,none⟩=some (ι first):=λx=>x.cell I H (qb d.o.ring 1 rfl)
 refine QN (λb=>b=A) w 15 15 [14] ?_
 refine Qq ?_
 refine jR rfl rfl ?_;intro K G;have aj:=IU (w.drewN (nq+1)) A first (room-first) _ a0 (qd d.o.row first)
 unfold jn;go_simp;refine⟨qi σ,G _ _ ?_⟩;clear G K aj N O;refine qA ?_
 go_wp2_with fail
 have N: ∀x:qz (λb=>b=A) w,x.w'.cell? ⟨R,0,none⟩=some (δ (some ⟨A,0,none⟩) room room):=λx=>x.cell I H (qb d.o.ring 0 rfl)
 have O: ∀x:qz (λb=>b=A) w,x.w'.cell? ⟨R,1,none⟩=some (ι first):=λx=>x.cell I H (qb d.o.ring 1 rfl)
 refine QN (λb=>b=A) w 14 15 [12,14] ?_
 refine Nz ?_
 (refine Ql ?_;intro K G)
 refine⟨qi σ,G _ _ ?_⟩;clear G K
 refine Qs1 ?_
 have ac: ¬A=R:=λe=>H e.symm
 have al:w.frozen? ⟨R,1,none⟩=false:=qd d.o.ring 1;have am:w.frozen? ⟨R,2,none⟩=false:=qd d.o.ring 2;have ax:w.cell? ⟨R,2,none⟩=some (ι (T.length+1)):=qb d.o.ring 2 (by simp[jV])
 (refine Qe ?_;intro K G)
 refine G _ _ ?_;clear G K;refine qA ?_;have an:(T.length:Int)<=8:=by have:=d.o.fits;simp at this;omega
 go_wp2;go_ret;refine⟨rfl, ?_,σ⟩;have ag:((first:Int)+1)%(room:Int)=(((first+1)%room:Nat):Int):=by rw[Int.natCast_emod];rfl
 rw[ag];have ah:=qo (qr d.o.ring (nq+1)) ⟨A,first,none⟩ (δ none 0 0) H;have ai:=(d.o.more (qa.drewN w (nq+1))).setY first (δ none 0 0)
 refine d.o.took ⟨rfl,by simp[Value.oneCell']⟩ (qB (qp (qp (qr ah 1) 1 _) 2 _) ?_) (qo (qo (qr ai 1) _ _ ac) _ _ ac);simp[jV]
theorem MY (w:World) (R A room first:Nat) (d:Option Addr) (H G:Nat) (T:List (List Value)) (N O I J:Int) (css:List (List Value)) (h:zR w R A room first ([δ d H G]::T) N O I J css):
  Calls prog 128 #[γ R] w λe w'=>e= .returned (.tuple #[δ d H G,true])/\(∃co',zR w' R A room ((first+1)%room) T N co' I J (css.set first [δ none 0 0]))/\qg (RgB R A) w w':=by
 have aa:=κ h;have ad:((([δ d H G]::T).length:Int)==0)=false:=by simp;omega
 have ae:w.cell? ⟨R,2,none⟩=some (ι ([δ d H G]::T).length):=qb h.ring 2 rfl;have af:w.cell? ⟨R,5,none⟩=some (ι O):=qb h.ring 5 rfl;have ac:w.frozen? ⟨R,5,none⟩=false:=qd h.ring 5;clear h
 go_enter func128,ntmps128
 go_wp2_with (go_at_call 140;(go_call DI _ R A room first d H G T N _ I J css (aa.o.popped _) as e w5 ⟨rfl,U,a5⟩;have ab:=κ U;have Y:Hid (qg (RgB R A) w w5):=κ (((qg.refl _ _).set (Or.inl rfl) _).trans a5);clear U a5))
 refine bodyPost_ret (v:= .tuple #[δ d H G,true]) (by simp[results,results128,go_sem]) rfl ?_;exact⟨rfl,⟨_,ab.o⟩,Y.o⟩
end
theorem IL (w:World) (R A room first:Nat) (q:List (List Value)) (N O I J:Int) (css:List (List Value)) (h:zR w R A room first q N O I J css) (ao: ∀c∈q,∃G n cp,c=[δ G n cp]):
  Calls prog 124 #[γ R] w λe w'=> ∃v,e= .returned v/\w'.ownsRow w.heap.size 35 1 v q.length q.flatten/\(∃first' cg' css',zR w' R A room first' [] N O I cg' css')/\qg (RgB R A) w w':=by
 obtain⟨aJ,aK,aL,aM,aN⟩:=info_parts (P:=prog) (e:=35) (z:= δ none 0 0) (size:=1) (bytes:=24) ξ;have aw:=κ h;have aR:R<w.heap.size:=qn h.ring;have aQ:A<w.heap.size:=qn h.row;have aW:w.cell? ⟨R,2,none⟩=some (ι q.length):=qb h.ring 2 rfl;have aU:(q.length:Int)<=8:=by have:=h.fits;have:=h.pos.2;omega
 have aC:=κ ao;clear h ao
 go_enter func124,ntmps124
 go_wp2
 go_loopw [3,8] (λu ag wr=> ∃(j f:Nat) (cs:List (List Value)),j<=q.length/\ag= ι j/\(∃ar aq ak,u= δ ar aq ak)/\wr.ownsRow w.heap.size 35 1 u j (q.take j).flatten/\zR wr R A room f (q.drop j) N O I J cs/\qg (RgB R A) w wr) (λ_ ag _=>q.length-(intOf ag).toNat)
 case atStart=>exact⟨0,first,css,τ,rfl,⟨_,_,_,rfl⟩,World.ownsRow_nil w _ _ _,aw.o,qg.refl _ _⟩
 case round=>
  obtain⟨j,f,cs,aS,rfl,⟨ar,aq,ak,rfl⟩,d,ap,am⟩:=hrel;have ah:=κ d;have H:=κ ap;have ab:=κ am;clear d ap am;by_cases hlt:j<q.length
  ·have ad:q.drop j=q[j]::q.drop (j+1):=List.drop_eq_getElem_cons hlt;have af:q.take (j+1)=q.take j++[q[j]]:=by rw[List.take_add_one,List.getElem?_eq_getElem hlt];rfl
   obtain⟨G,aa,Y,an⟩:=aC.o q[j] (List.getElem_mem hlt);have aT:(j:Int)<(q.length:Int):=by omega
   rw[an] at ad af;have az:=κ (ad▸H.o);have aA:=κ af;clear ad af H an
   go_wp2_with (first | (go_at_call 140;(go_call DI wr R A room f G aa Y (q.drop (j+1)) N O I J cs az.o as e w5 ⟨rfl,al,a5⟩;have ax:=κ al;have au:=κ a5;have U:=κ (zI ah.o a5 (λb ac e=>by rcases e with e | e<;>omega));have aD:Hid (w.heap.size<=w5.heap.size):=κ (Nat.le_trans ab.o.size a5.size);clear al a5)) | (at_builtin;(refine wpList_append_own_at _ rfl (.tmp 10) (.tmp 13) 225 rfl w.heap.size 35 aJ (δ none 0 0) 1 24 underlying225 aK aL aM aN rfl ζ _ j (q.take j).flatten rfl (zI U.o (qg.of_more (qa.alloc _ _)) (λb _ e=>e)) ⟨w5.heap.size,0,none⟩ 1 1 [δ G aa Y] rfl rfl (λi u aG=>by have:=xy (cs:=[δ G aa Y]) (t:=35) (qj w5 (.cells #[δ G aa Y] 35)) i u aG;rw[Addr.add_mid];exact this) (by simp[Value.oneCell']) (by unfold maxLen;omega) τ (by have:=aD.o;simp;omega) ?_;intro v6 w6 d ae aE aH;have aB:=κ d;have av:Hid (qg (RgB R A) w w6):=κ (((ab.o.trans au.o).alc _).grown ae (λb ac=>vV U.o ac));have ay:Hid (zR w6 R A room ((f+1)%room) (q.drop (j+1)) N O I J (cs.set f [δ none 0 0])):=κ ((ax.o.more (qa.alloc _ _)).away (qg.of_grown ae) (λe=>by have:=vV U.o e;omega) (λe=>by have:=vV U.o e;omega));obtain⟨aV,aO,rfl⟩:=zA d;clear d ae aE aH)))
   go_roundw
   case rel=>exact⟨j+1,(f+1)%room,_,τ,by go_num,⟨_,_,_,rfl⟩,by rw[aA.o,List.flatten_append];simpa using aB.o,ay.o,av.o⟩
   case measure=>simp[intOf];omega
  ·obtain rfl:j=q.length:=by omega
   have aX:wr.cell? ⟨R,7,none⟩=some (ι J):=qb H.o.ring 7 rfl;have aP:wr.frozen? ⟨R,7,none⟩=false:=qd H.o.ring 7;go_wp2;go_ret;have aI:q.drop q.length=[]:=by simp
   have aF:q.take q.length=q:=by simp
   have aj:=H.o;have ai:=ah.o;rw[aI] at aj;rw[aF] at ai;exact⟨_,rfl,zI ai ((qg.refl (λb=>b=R) _).set rfl _) (λb ac e=>by omega),⟨_,_,_,aj.drained _⟩,ab.o.set (Or.inl rfl) _⟩
theorem UB (w:World) (R A room first:Nat) (q:List (List Value)) (J ac aa ab:Int) (css:List (List Value)) (h:zR w R A room first q J ac aa ab css) (az:q.length<room) (O:Option Addr) (Y U:Nat):
  Calls prog 83 #[γ R,δ O Y U] w λe w'=>e= .returned (.tuple #[δ none 0 0,false,ι 0])/\(∃ci' cd',zR w' R A room first (q++[[δ O Y U]]) ci' ac cd' ab (css.set ((first+q.length)%room) [δ O Y U]))/\qg (RgB R A) w w':=by
 have ag:=κ h;have aB:w.cell? ⟨R,3,none⟩=some (μ false):=qb h.ring 3 rfl;have ay:decide (q.length=room)=false:=by simp;omega
 clear h
 go_enter func83,ntmps83
 go_wp2_with (go_at_call 139;(go_call He ag.o as e am ⟨rfl,aJ,aj⟩;rw[ay];have ae:Hid (qa w am):=κ (by rw[aj];exact qa.drewN _ _);clear aj))
 obtain⟨G,ad⟩: ∃G,G=am:=⟨_,rfl⟩;have d:Hid (zR G R A room first q J ac aa ab css):=κ (by rw[ad];exact ag.o.more ae.o);have af:Hid (qg (RgB R A) w G):=κ (by rw[ad];exact qg.of_more ae.o);have aA:q.length<room:=az;rw[<-ad];clear ad ae aB;obtain⟨f,ai⟩: ∃f,Hid (f=first):=⟨_,κ rfl⟩;obtain⟨cs,ah⟩: ∃cs,Hid (cs=css):=⟨_,κ rfl⟩;rw[<-ai.o,<-ah.o] at d;have ao: ∀x:qt G,x.w'.cell? ⟨R,0,none⟩=some (δ (some ⟨A,0,none⟩) room room):=λx=>x.cell (qn d.o.ring) (qb d.o.ring 0 rfl)
 have ap: ∀x:qt G,x.w'.cell? ⟨R,1,none⟩=some (ι f):=λx=>x.cell (qn d.o.ring) (qb d.o.ring 1 rfl)
 have aq: ∀x:qt G,x.w'.cell? ⟨R,2,none⟩=some (ι q.length):=λx=>x.cell (qn d.o.ring) (qb d.o.ring 2 rfl)
 have aG:((f:Int)+(q.length:Int))%(room:Int)=(((f+q.length)%room:Nat):Int):=by rw[Int.natCast_emod];rfl
 have ax:(f+q.length)%room<room:=Nat.mod_lt _ τ;have hi:(((f+q.length)%room:Nat):Int)<(room:Int):=by omega
 have aH:=d.o.pos;have aE:=d.o.fst;have aF:(f:Int)<=8:=by omega
 have aI:(q.length:Int)<=8:=by omega
 obtain⟨v0,_,au⟩:=d.o.cellY ax;have av:G.frozen? ⟨A,(f+q.length)%room,none⟩=false:=qd d.o.row _;generalize aw:(f+q.length)%room=I at *;refine Qn G 21 22 [21] ?_
 refine NA ?_
 (refine Qe ?_;intro K ak)
 refine ak _ _ ?_;clear ak K ao ap aq;refine qA ?_;obtain⟨W6,N⟩:=ν ((G.drewN 1).setCell ⟨A,I,none⟩ (δ O Y U));have an:Hid (qg (RgB R A) w W6):=κ (by rw[<-N];exact(af.o.drewN 1).set (Or.inr rfl) _);have H:Hid (W6.heap[R]? =some (.cells (jV A room f q.length J ac aa ab) 229 (0,0))):=κ (by rw[<-N];exact qo (qr d.o.ring 1) _ _ d.o.ne);have ar:Hid (W6.heap[A]? =some (.cells (cs.set I [δ O Y U]).flatten.toArray 35 (0,0))):=κ (by rw[<-N];exact(d.o.more (qa.drewN G 1)).setY I _)
 (try rw[N])
 clear N af au av;have aK:W6.cell? ⟨R,2,none⟩=some (ι q.length):=qb H.o 2 rfl;have aC:W6.frozen? ⟨R,2,none⟩=false:=qd H.o 2;have aL:W6.cell? ⟨R,4,none⟩=some (ι J):=qb H.o 4 rfl;have aD:W6.frozen? ⟨R,4,none⟩=false:=qd H.o 4;go_wp2;refine bodyPost_ret (v:= .tuple #[δ none 0 0,false,ι 0]) (by simp[results,results83,go_sem]) rfl ?_;have al:R≠A:=d.o.ne;subst aw;obtain rfl:=ai.o;obtain rfl:=ah.o;refine⟨rfl,⟨wrap64 (J+1),aa,d.o.put aA ⟨rfl,by simp[Value.oneCell']⟩ ?_ ?_⟩,(an.o.set (Or.inl rfl) _).set (Or.inl rfl) _⟩
 ·exact qB (qp (qp H.o 2 _) 4 _) rfl
 ·exact qo (qo ar.o _ _ (Ne.symm al)) _ _ (Ne.symm al)
theorem UC (w:World) (R A room first:Nat) (N:Option Addr) (U O:Nat) (T:List (List Value)) (J ab H aa:Int) (css:List (List Value)) (h:zR w R A room first ([δ N U O]::T) J ab H aa css) (ai:([δ N U O]::T).length=room) (ad:Option Addr) (af ae:Nat):
  Calls prog 83 #[γ R,δ ad af ae] w λe w'=>e= .returned (.tuple #[δ N U O,true,ι 0])/\(∃ci' cd',zR w' R A room ((first+1)%room) (T++[[δ ad af ae]]) ci' ab cd' aa ((css.set first [δ none 0 0]).set ((((first+1)%room)+T.length)%room) [δ ad af ae]))/\qg (RgB R A) w w':=by
 have am:=κ h;have aI:w.cell? ⟨R,3,none⟩=some (μ false):=qb h.ring 3 rfl;have aG:decide (([δ N U O]::T).length=room)=true:=by simp at ai ⊢;exact ai
 clear h
 go_enter func83,ntmps83
 go_wp2_with (first | (go_at_call 139;(go_call He am.o as e av ⟨rfl,aS,aq⟩;rw[aG];have aj:Hid (qa w av):=κ (by rw[aq];exact qa.drewN _ _);clear aq)) | (go_at_call 140;(go_call DI av R A room first N U O T J ab H aa css (am.o.more aj.o) as e w5 ⟨rfl,ag,a5⟩;have an:=κ ag;have ak:Hid (qg (RgB R A) w w5):=κ ((qg.of_more aj.o).trans a5);have aJ:w5.cell? ⟨R,6,none⟩=some (ι H):=qb ag.ring 6 rfl;have aD:w5.frozen? ⟨R,6,none⟩=false:=qd ag.ring 6;clear ag a5)))
 obtain⟨G,ah⟩:=ν (w5.setCell ⟨R,6,none⟩ (ι (wrap64 (H+1))));have d:Hid (zR G R A room ((first+1)%room) T J ab (wrap64 (H+1)) aa (css.set first [δ none 0 0])):=κ (by rw[<-ah];exact an.o.dropped _);have al:Hid (qg (RgB R A) w G):=κ (by rw[<-ah];exact ak.o.set (Or.inl rfl) _);have aH:T.length<room:=by simp at ai;omega
 (try rw[ah])
 clear ah aj an ak aJ aD aI ai;obtain⟨f,ap⟩: ∃f,Hid (f=((first+1)%room)):=⟨_,κ rfl⟩;obtain⟨cs,ao⟩: ∃cs,Hid (cs=(css.set first [δ none 0 0])):=⟨_,κ rfl⟩;rw[<-ap.o,<-ao.o] at d;have ax: ∀x:qt G,x.w'.cell? ⟨R,0,none⟩=some (δ (some ⟨A,0,none⟩) room room):=λx=>x.cell (qn d.o.ring) (qb d.o.ring 0 rfl)
 have ay: ∀x:qt G,x.w'.cell? ⟨R,1,none⟩=some (ι f):=λx=>x.cell (qn d.o.ring) (qb d.o.ring 1 rfl)
 have az: ∀x:qt G,x.w'.cell? ⟨R,2,none⟩=some (ι T.length):=λx=>x.cell (qn d.o.ring) (qb d.o.ring 2 rfl)
 have aP:((f:Int)+(T.length:Int))%(room:Int)=(((f+T.length)%room:Nat):Int):=by rw[Int.natCast_emod];rfl
 have aF:(f+T.length)%room<room:=Nat.mod_lt _ τ;have hi:(((f+T.length)%room:Nat):Int)<(room:Int):=by omega
 have aQ:=d.o.pos;have aM:=d.o.fst;have aN:(f:Int)<=8:=by omega
 have aO:0<=(f:Int):=by omega
 have aR:(T.length:Int)<=8:=by omega
 obtain⟨v0,_,aB⟩:=d.o.cellY aF;have aC:G.frozen? ⟨A,(f+T.length)%room,none⟩=false:=qd d.o.row _;generalize aE:(f+T.length)%room=I at *;refine Qn G 21 22 [21] ?_
 refine NA ?_
 (refine Qe ?_;intro K ar)
 refine ar _ _ ?_;clear ar K ax ay az;refine qA ?_;obtain⟨W6,ac⟩:=ν ((G.drewN 1).setCell ⟨A,I,none⟩ (δ ad af ae));have aw:Hid (qg (RgB R A) w W6):=κ (by rw[<-ac];exact(al.o.drewN 1).set (Or.inr rfl) _);have Y:Hid (W6.heap[R]? =some (.cells (jV A room f T.length J ab (wrap64 (H+1)) aa) 229 (0,0))):=κ (by rw[<-ac];exact qo (qr d.o.ring 1) _ _ d.o.ne);have aA:Hid (W6.heap[A]? =some (.cells (cs.set I [δ ad af ae]).flatten.toArray 35 (0,0))):=κ (by rw[<-ac];exact(d.o.more (qa.drewN G 1)).setY I _)
 (try rw[ac])
 clear ac al aB aC;have aT:W6.cell? ⟨R,2,none⟩=some (ι T.length):=qb Y.o 2 rfl;have aK:W6.frozen? ⟨R,2,none⟩=false:=qd Y.o 2;have aU:W6.cell? ⟨R,4,none⟩=some (ι J):=qb Y.o 4 rfl;have aL:W6.frozen? ⟨R,4,none⟩=false:=qd Y.o 4;go_wp2;refine bodyPost_ret (v:= .tuple #[δ N U O,true,ι 0]) (by simp[results,results83,go_sem]) rfl ?_;have au:R≠A:=d.o.ne;subst aE;obtain rfl:=ap.o;obtain rfl:=ao.o;refine⟨rfl,⟨wrap64 (J+1),wrap64 (H+1),d.o.put aH ⟨rfl,by simp[Value.oneCell']⟩ ?_ ?_⟩,(aw.o.set (Or.inl rfl) _).set (Or.inl rfl) _⟩
 ·exact qB (qp (qp Y.o 2 _) 4 _) rfl
 ·exact qo (qo aA.o _ _ (Ne.symm au)) _ _ (Ne.symm au)
section
variable {P:Program} {t e:TypeId} {q:IntKind}
theorem PM (d:P.underlying e=some (.int q)) (n:Nat) (a b:Int) (w:World):(Op.equalIn (n+1) e (.int q a) (.int q b)).run P w= .ok (decide (a=b)) w:=by
 unfold Op.equalIn;rw[Sem.run_bind,run_underlying d];simp[Result.andThen,Sem.run,pure];rw[Bool.eq_iff_iff];simp
theorem Vt (d: ∀w,(isAgg e).run P w= .ok false w) (cs:Array Value) (i:Nat) (v:Value) (w:World) (h:cs[i]? =some v):(part e cs i).run P w= .ok v w:=by
 unfold part;rw[Sem.run_bind,d];simp[Result.andThen,h,Sem.run,pure]
theorem wV (G:P.underlying e=some (.int q)) (d: ∀w,(isAgg e).run P w= .ok false w) (n:Nat) (la lb:List Int) (w:World): ∀(is:List Nat),(∀i∈is,i<la.length/\i<lb.length)->
  (Op.eqItems (n+1) e 1 (la.map (Value.int q)).toArray (lb.map (Value.int q)).toArray is).run P w= .ok (decide (∀i∈is,la.getD i 0=lb.getD i 0)) w
 | [],_=>by simp[Op.eqItems,Sem.run,pure]
 | i::is,h=>by
  obtain⟨H,I⟩:=h i List.mem_cons_self;have N:=wV G d n la lb w is (λj J=>h j (List.mem_cons_of_mem _ J));unfold Op.eqItems;rw[Sem.run_bind,Vt d _ _ (.int q (la.getD i 0)) w (by simp[H])];simp only[Result.andThen_ok];rw[Sem.run_bind,Vt d _ _ (.int q (lb.getD i 0)) w (by simp[I])];simp only[Result.andThen_ok];rw[Sem.run_bind,PM G];simp only[Result.andThen_ok];by_cases e:la.getD i 0=lb.getD i 0
  ·rw[decide_eq_true e];simp only[Bool.not_true,Bool.false_eq_true,if_false,N]
   congr 1
   rw[Bool.eq_iff_iff];simp only[decide_eq_true_eq,List.forall_mem_cons];exact⟨λh=>⟨e,h⟩,λh=>h.2⟩
  ·rw[decide_eq_false e];simp only[Bool.not_false,if_true];have: ¬ ∀j∈i::is,la.getD j 0=lb.getD j 0:=λh=>e (h i List.mem_cons_self)
   rw[decide_eq_false this];rfl
theorem VJ {n:Nat} {la lb:List Int} (H:la.length=n) (I:lb.length=n):(∀i∈List.range n,la.getD i 0=lb.getD i 0)↔la=lb:=by
 constructor
 ·intro h;refine List.ext_getElem τ λi d G=> ?_
  have:=h i (List.mem_range.2 τ)
  simpa [d,G] using this
 ·rintro rfl i _;rfl
theorem Fz {n:Nat} {i:TypeInfo} (N:P.underlying t=some (.array n e)) (hi:P.info? e=some i) (I:P.cellsOf e=1) (J:P.underlying e=some (.int q)) (d: ∀w,(isAgg e).run P w= .ok false w) (la lb:List Int) (G:la.length=n) (H:lb.length=n) (w:World):
  (binOp .eql t (θ (la.map (Value.int q)).toArray) (θ (lb.map (Value.int q)).toArray)).run P w= .ok (μ (decide (la=lb))) w:=by
 rw[run_eql_struct,show (10000:Nat)=9998+1+1 from rfl,run_equalIn_array w (9998+1) _ _ N hi,I,wV J d 9998 la lb w _ (λi hi=>by have:=List.mem_range.1 hi;omega)];simp only[Result.andThen_ok]
 congr 2
 rw[Bool.eq_iff_iff];simp only[decide_eq_true_eq];exact VJ G H
theorem Fy {n:Nat} {i:TypeInfo} (N:P.underlying t=some (.array n e)) (hi:P.info? e=some i) (I:P.cellsOf e=1) (J:P.underlying e=some (.int q)) (d: ∀w,(isAgg e).run P w= .ok false w) (la lb:List Int) (G:la.length=n) (H:lb.length=n) (w:World):
  (binOp .neq t (θ (la.map (Value.int q)).toArray) (θ (lb.map (Value.int q)).toArray)).run P w= .ok (μ (!decide (la=lb))) w:=by
 rw[run_neq_struct,show (10000:Nat)=9998+1+1 from rfl,run_equalIn_array w (9998+1) _ _ N hi,I,wV J d 9998 la lb w _ (λi hi=>by have:=List.mem_range.1 hi;omega)];simp only[Result.andThen_ok]
 congr 3
 rw[Bool.eq_iff_iff];simp only[decide_eq_true_eq];exact VJ G H
end
section
open Go.RowKit Go.Lib
theorem Od {n:Nat}: ∀(css:List (List Value)) (i j:Nat),(∀c∈css,c.length=n)->i<css.length->j<n->css.flatten[i* n+j]? =(css.getD i [])[j]?
 | [],_,_,_,h,_=>absurd h η
 | c::css,0,j,hl,_,hj=>by
  have:=hl c η;rw[List.flatten_cons,Nat.zero_mul,Nat.zero_add,List.getElem?_append_left τ];rfl
 | c::css,i+1,j,hl,hi,hj=>by
  have d:=hl c η;rw[List.flatten_cons,List.getElem?_append_right (by rw[d,Nat.add_mul];omega),d,show (i+1)* n+j-n=i* n+j by rw[Nat.add_mul];omega];exact Od css i j (λG H=>hl G (by simp[H])) (by simpa using hi) hj
def aB:List Int:=[128,201,0,1,0,0,0,5,129,206,0,2,0,0,0,0,0,0,0,7,132,206,0,6,0,0,0,0,0,0,0,0,0,0,0,8,0,0,0,0,0,0,0,9,0,0,0,0,129,205,0,3,0,0,0,0,0,0,0,7,0,1,0,1,128,203,0,0]
end
theorem Ob {α:Type} (d:α) (p:Nat->α->Prop): ∀m,(∀i,i<m-> ∃c,p i c)-> ∃l:List α,l.length=m/\ ∀i,i<m->p i (l.getD i d)
 | 0,_=>⟨[],rfl,λi hi=>absurd hi τ⟩
 | m+1,h=>by
  obtain⟨l,G,I⟩:=Ob d p m λi hi=>h i τ
  obtain⟨c,H⟩:=h m τ;refine⟨l++[c],by simp[G],λi hi=> ?_⟩;by_cases e:i<m
  ·have:=I i e;rw[List.getD_eq_getElem?_getD] at this ⊢;rw[List.getElem?_append_left τ];exact this
  ·obtain rfl:i=m:=by omega
   rw[List.getD_eq_getElem?_getD,List.getElem?_append_right τ,G]
   simpa using H
theorem Oc {n:Nat}: ∀(css:List (List Value)),(∀c∈css,c.length=n)->css.flatten.length=css.length* n
 | [],_=>by simp
 | c::css,h=>by
  rw[List.flatten_cons,List.length_append,Oc css λd G=>h d (by simp[G]),h c η,List.length_cons,Nat.add_mul];omega
section
open _root_.Go.Proofs.YtlmllmonabafjaaGreatDoor renaming Ob->Ξa,Oc->Ξb,Od->Ξc
theorem EO {P:Program} (Y w:World) {ops:Array Oper} {rest:List Oper} {o:Oper} {a:Act} {Q:Exit->Act->World->Prop} (an:o.guard=none) (s x:Operand) (t:TypeId)
  (aq:o.op= .call {callee:= .builtin .append,args:= #[s,x],argTypes:= #[t,t]})
  (base:Nat) (e:TypeId) (i:TypeInfo) (z:Value) (n bytes:Nat) (av:P.underlying t=some (.slice e)) (hi:P.info? e=some i) (aW:i.zero=some z)
  (aS:i.size=n) (aG:i.bytes=bytes) (aX:z.cells.size=n) (aj:0<n)
  {α:Type} {R:qL α} (aE:QQ R) (aR: ∀w cs y,R w cs y-> ∀u∈cs,u.oneCell'=true)
  (v:Value) (L:List α) (U:a.eval s=v) (ar:je n R (λ_=>False) w base e v L)
  (ax:Value) (M:List α) (aw:a.eval x=ax) (aM:SlP n R Y ax M) (ap:qa Y w) (aV: ∀b,v.ownBlock=some b->Y.heap.size<=b)
  (ba:1<=bytes) (aH:(L.length+M.length)* bytes<=140737488355328) (aF:base<=w.heap.size)
  (h: ∀v' w',je n R (λ_=>False) w' base e v' (L++M)->w.grownBy w' v.ownBlock->(v'.ownBlock=v.ownBlock∨v'.ownBlock=some w.heap.size)->wpList P ops Q rest (a.put o.dst v') w'):wpList P ops Q (o::rest) a w:=Ψ9
end
end Go.Proofs.YtlmllmonabafjaaGreatDoor
