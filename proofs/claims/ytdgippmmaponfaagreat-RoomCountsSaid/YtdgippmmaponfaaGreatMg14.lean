/- Contracts of the functions that the law reaches, and plain laws; no conditions but those written at each. -/
import Derived.Test.YtdgippmmaponfaaGreatMg13
import Derived.Test.YtdgippmmaponfaaGreatMg9
namespace Go.Proofs.YtdgippmmaponfaaGreat
open Go.Value renaming bool->μ,slice->δ,pointer->π,agg->θ
open Go.IntKind renaming i64->ι,u8->υ,u16->φ,u32->ω,i32->χ,u64->ψ
open _root_.Go.Proofs.Tryz
set_option linter.unusedSimpArgs false
set_option maxHeartbeats 8000000
set_option linter.unusedVariables false
open Go.RowKit
set_option maxRecDepth 100000
theorem PH (s:RdS):(zd s).2.2.1.length<=s.1.length:=by
 have d: ∀s:RdS,(tkS s 1).1.length<=s.1.length:=λs=>by unfold tkS tkL;rw[List.length_drop];omega
 unfold zd;split
 ·exact Nat.le_trans (d _) (d _)
 ·exact d _
theorem Es (b:List Int):0<=(qW b).2.1/\(qW b).2.1<=b.length:=by
 have d:=PH (b,0);have G:=GI (zd (b,0)).1 (zd (b,0)).2.1 (zd (b,0)).2.2;unfold qW DE;split
 ·exact⟨Int.le_refl _,η⟩
 ·simp only at d ⊢;omega
theorem Jg (v:Value) (b:List Int) (w:World) (am:SlI .u8 w v b) (M:Byt b) (ad:b.length<=1000000):
  Calls prog 139 #[v] w λe w'=>e= .returned (μ (zJ b))/\qa w w':=by
 have I:=κ am;have ao:=Es b;have G:zJ b=(decide ((qW b).2.2=0)&&(qW b).1.st&&decide ((qW b).1.pt=0)&&decide ((qW b).2.1<b.length)&&decide (b.getD (qW b).2.1.toNat 0%2=0)):=rfl;obtain⟨aF,aC,rfl,_,N,_⟩:=am;obtain⟨ax,ai⟩:=ν ((qW b).1.st);obtain⟨an,ag⟩:=ν ((qW b).1.pt);obtain⟨ae,af⟩:=ν ((qW b).2.1);obtain⟨aq,aj⟩:=ν ((qW b).2.2);rw[af] at ao;rw[ai,ag,af,aj] at G;have Y:=κ ai;have O:=κ ag;have ab:=κ af;have ac:=κ aj;obtain⟨U,aa⟩:=ao;clear ai ag af aj;by_cases h1:aq=0
 ·cases ax with
  | false=>
   have H:Hid (zJ b=false):=κ (by rw[G];simp);subst h1;clear G N U aa
   go_enter func139,ntmps139
   go_wp2_with (go_at_call 181;(go_call kz _ b _ I.o M ad as e w2 ⟨rfl,d⟩;have J:=κ d;have ak:=κ ((I.o.keep d).keep (qa.alloc _ (.cells #[μ (qW b).1.lo,μ (qW b).1.st,υ (qW b).1.pt,ι (qW b).1.pic,μ (qW b).1.wd,ι (qW b).1.bs,ι (qW b).1.tr,μ (qW b).1.sy,ι (qW b).1.ky] 329)));clear d;rw[Y.o,O.o,ab.o,ac.o]))
   go_ret;exact⟨by rw[H.o];try rfl,J.o.al _⟩
  | true=>
   by_cases h2:an=0
   ·by_cases h3:ae<b.length
    ·obtain⟨k,rfl⟩: ∃k:Nat,ae=k:=⟨ae.toNat,τ⟩;have aw:k<b.length:=by omega
     obtain⟨ah,ar,rfl,ap,av⟩:=N k aw;have ay:=M k;have H:Hid (zJ b=decide (b.getD k 0%2=0)):=κ (by rw[G,decide_eq_true h1,decide_eq_true h2,decide_eq_true h3];simp);have au: ¬(b.length:Int)<=(k:Int):=by omega
     subst h1 h2;clear G N U aa;generalize b.getD k 0=x at *;obtain⟨aG,aB⟩:=ay
     go_enter func139,ntmps139
     go_wp2_with (go_at_call 181;(go_call kz _ b _ I.o M ad as e w2 ⟨rfl,d⟩;have J:=κ d;rw[Y.o,O.o,ab.o,ac.o];have aE:w2.cell? ⟨ah,ar+k,none⟩=some (υ x):=(by rw[d.cells ah _ ap];exact av);have aA:ah<w2.heap.size:=Nat.lt_of_lt_of_le ap d.size;clear d))
     go_ret;exact⟨by rw[H.o];first | rfl | (congr 2;rw[Bool.eq_iff_iff];simp),J.o.al _⟩
    ·have H:Hid (zJ b=false):=κ (by rw[G,decide_eq_false h3];simp);have au:(b.length:Int)<=ae:=by omega
     subst h1 h2;clear G N U aa
     go_enter func139,ntmps139
     go_wp2_with (go_at_call 181;(go_call kz _ b _ I.o M ad as e w2 ⟨rfl,d⟩;have J:=κ d;have ak:=κ ((I.o.keep d).keep (qa.alloc _ (.cells #[μ (qW b).1.lo,μ (qW b).1.st,υ (qW b).1.pt,ι (qW b).1.pic,μ (qW b).1.wd,ι (qW b).1.bs,ι (qW b).1.tr,μ (qW b).1.sy,ι (qW b).1.ky] 329)));clear d;rw[Y.o,O.o,ab.o,ac.o]))
     go_ret;exact⟨by rw[H.o];try rfl,J.o.al _⟩
   ·have H:Hid (zJ b=false):=κ (by rw[G,decide_eq_false h2];simp);have az:(an != 0)=true:=by simpa using h2
    subst h1;clear G N U aa h2
    go_enter func139,ntmps139
    go_wp2_with (go_at_call 181;(go_call kz _ b _ I.o M ad as e w2 ⟨rfl,d⟩;have J:=κ d;have ak:=κ ((I.o.keep d).keep (qa.alloc _ (.cells #[μ (qW b).1.lo,μ (qW b).1.st,υ (qW b).1.pt,ι (qW b).1.pic,μ (qW b).1.wd,ι (qW b).1.bs,ι (qW b).1.tr,μ (qW b).1.sy,ι (qW b).1.ky] 329)));clear d;rw[Y.o,O.o,ab.o,ac.o]))
    go_ret;exact⟨by rw[H.o];try rfl,J.o.al _⟩
 ·have H:Hid (zJ b=false):=κ (by rw[G,decide_eq_false h1];simp);have aD:(aq != 0)=true:=by simpa using h1
  clear G N U aa h1
  go_enter func139,ntmps139
  go_wp2_with (go_at_call 181;(go_call kz _ b _ I.o M ad as e w2 ⟨rfl,d⟩;have J:=κ d;have ak:=κ ((I.o.keep d).keep (qa.alloc _ (.cells #[μ (qW b).1.lo,μ (qW b).1.st,υ (qW b).1.pt,ι (qW b).1.pic,μ (qW b).1.wd,ι (qW b).1.bs,ι (qW b).1.tr,μ (qW b).1.sy,ι (qW b).1.ky] 329)));clear d;rw[Y.o,O.o,ab.o,ac.o]))
  go_ret;exact⟨by rw[H.o];try rfl,J.o.al _⟩
theorem IY: ∀m:Fin 256,bits .and .u8 (m.val:Int) 127=(m.val:Int)%128/\bits .and .u8 (m.val:Int) 15=(m.val:Int)%16:=of_decide_eq_true ξ
theorem Gd {x:Int} (h:0<=x/\x<=255):bits .and .u8 x 127=x%128/\bits .and .u8 x 15=x%16:=by
 obtain⟨m,rfl⟩:=Int.eq_ofNat_of_zero_le h.1;exact IY ⟨m,τ⟩
structure HdS (w0 w:World) (R hi Br Bd:Nat) (s:RdS) (q:Pk) (vs ve vp:Value):Prop where
 rd:qu w R s.1 s.2 (λg=>g<hi)
 more:qa w0 w
 br:w.heap[Br]? =some (.cells #[.bool false,.int .u8 0,.int .u16 0,.int .u32 0,.int .u32 0,.slice none 0 0,.bool false,.int .u16 0,.slice none 0 0,.slice none 0 0] 55 (0,0))
 bd:w.heap[Bd]? =some (.cells #[.bool q.mr,.int .u8 q.ty,.int .u16 q.sq,.int .u32 q.st,.int .u32 q.sc,vs,.bool q.has,.int .u16 q.pr,ve,vp] 55 (0,0))
 rs:w.ownsRow (Bd+1) 37 1 vs q.ss.length (q.ss.map (Value.int .u32))
 re:w.ownsRow (Bd+1) 5 1 ve q.ex.length (q.ex.map (Value.int .u8))
 rp:w.ownsRow (Bd+1) 5 1 vp q.pl.length (q.pl.map (Value.int .u8))
 n0:w0.heap.size<=Br
 nR:Br<R
 n1:R<hi
 n5:hi<=Bd
theorem HdS.step {H w w':World} {R hi Br Bd:Nat} {s s':RdS} {q:Pk} {I G vp:Value} (h:HdS H w R hi Br Bd s q I G vp) (r:qu w' R s'.1 s'.2 (λg=>g<hi)) (a:qg (λb=>b=R) w w'):HdS H w' R hi Br Bd s' q I G vp:=by
 have:=h.n0;have:=h.nR;have:=h.n1;have:=h.n5;exact⟨r,qg.to_more h.more a (λk d=>by omega),a.blk h.br τ,a.blk h.bd τ,xC h.rs a (λk d=>by omega),xC h.re a (λk d=>by omega),xC h.rp a (λk d=>by omega),h.n0,h.nR,h.n1,h.n5⟩
theorem HdS.on {G w w':World} {R hi Br Bd:Nat} {s:RdS} {q:Pk} {H d vp:Value} (h:HdS G w R hi Br Bd s q H d vp) (m:qa w w'):HdS G w' R hi Br Bd s q H d vp:=
 ⟨h.rd.more m,h.more.trans m,qc m h.br,qc m h.bd,jE h.rs m,jE h.re m,jE h.rp m,h.n0,h.nR,h.n1,h.n5⟩
theorem HdS.fill {I w:World} {R hi Br Bd:Nat} {s:RdS} {q q':Pk} {J H vp G d vp':Value} (h:HdS I w R hi Br Bd s q J H vp) (i:Nat) (v:Value)
  (N:((Γq q J H vp):Array Value).setIfInBounds i v= (Γq q' G d vp'))
  (U:w.ownsRow (Bd+1) 37 1 G q'.ss.length (q'.ss.map (Value.int .u32))) (Y:w.ownsRow (Bd+1) 5 1 d q'.ex.length (q'.ex.map (Value.int .u8))) (O:w.ownsRow (Bd+1) 5 1 vp' q'.pl.length (q'.pl.map (Value.int .u8))):
  HdS I (w.setCell ⟨Bd,i,none⟩ v) R hi Br Bd s q' G d vp':=by
 have:=h.n0;have:=h.nR;have:=h.n1;have:=h.n5;have a:qg (λb=>b=Bd) w (w.setCell ⟨Bd,i,none⟩ v):=(qg.refl (λb=>b=Bd) w).set (p:=⟨Bd,i,none⟩) rfl _;exact⟨h.rd.off a τ (λg aa e=>by omega),h.more.st (p:=⟨Bd,i,none⟩) (by show _<=Bd;omega) _,a.blk h.br τ,qB (qp h.bd i v) N,xC U a (λk M=>by omega),xC Y a (λk M=>by omega),xC O a (λk M=>by omega),h.n0,h.nR,h.n1,h.n5⟩
theorem HdS.scal {H w:World} {R hi Br Bd:Nat} {s:RdS} {q:Pk} {G d vp:Value} (h:HdS H w R hi Br Bd s q G d vp) (i:Nat) (v:Value) (q':Pk)
  (J:((Γq q G d vp):Array Value).setIfInBounds i v= (Γq q' G d vp)) (M:q'.ss=q.ss) (N:q'.ex=q.ex) (I:q'.pl=q.pl):HdS H (w.setCell ⟨Bd,i,none⟩ v) R hi Br Bd s q' G d vp:=
 h.fill i v J (by rw[M];exact h.rs) (by rw[N];exact h.re) (by rw[I];exact h.rp)
theorem HdS.begin {w w2:World} {b:List Int} {R:Nat} {Z:Array Value} (d:Z= Γc) (I:(w.alloc (.cells Z 55)).heap.size<=R)
  (r:qu w2 R b 0 (λg=>(w.alloc (.cells Z 55)).heap.size<=g/\g<w2.heap.size)) (m:qa (w.alloc (.cells Z 55)) w2):
  HdS w (w2.alloc (.cells Γc 55)) R w2.heap.size w.heap.size w2.heap.size (b,0) pk0 (δ none 0 0) (δ none 0 0) (δ none 0 0):=by
 subst d;have G:R<w2.heap.size:=by obtain⟨v,H,_⟩:=r.blk;exact qn H
 have J:(w.alloc (.cells Γc 55)).heap.size=w.heap.size+1:=by simp
 exact⟨(r.mono λg h=>h.2).more (qa.alloc _ _),((qa.alloc _ _).trans m).al _,qs (qc m (qj w _)) _,qj w2 _,World.ownsRow_nil _ _ _ _,World.ownsRow_nil _ _ _ _,World.ownsRow_nil _ _ _ _,Nat.le_refl _,τ,G,Nat.le_refl _⟩
theorem Pf {w:World} {base e n:Nat} {G:Option Addr} {m cap:Nat} {l:List Int} {k:IntKind} (h:w.ownsRow base e 1 (δ G m cap) l.length (l.map (Value.int k))) (M:n<=l.length) (ac:0<l.length):w.ownsRow base e 1 (δ G n cap) (l.take n).length ((l.take n).map (Value.int k)):=by
 obtain⟨ae,Y⟩:=h;have d:(l.take n).length=n:=by rw[List.length_take];omega
 rcases Y with ⟨_,ab⟩ | ⟨g,aa,cur,U,I,H,ad,N,O,J⟩
 ·omega
 ·cases U;refine⟨η,Or.inr ⟨g,_,cur,by rw[d],I,H,by rw[d];omega,N,O, ?_⟩⟩;rw[d,Nat.mul_one,List.map_take,<-J,List.take_take,Nat.mul_one,Nat.min_eq_left M]
theorem XK (J:Option Addr) (cap:Nat) (b:List Int) (base:Nat) (w:World) (h:w.ownsRow base 5 1 (δ J b.length cap) b.length (b.map (Value.int .u8))) (ad:Byt b) (ao:b.length<=1000000):
  Calls prog 60 #[δ J b.length cap] w λe w'=>(∃v,e= .returned (.tuple #[v,μ (xL b).2])/\w.ownsRow base 5 1 v (xL b).1.length ((xL b).1.map (Value.int .u8)))/\w=w':=by
 have U:=κ h;obtain⟨aq,am,ac,ag,d,H,_⟩:=SlI.of_owns h τ;cases ac;have M:(∃v,(Ending.returned (.tuple #[δ none 0 0,false]))= .returned (.tuple #[v,false])/\w.ownsRow base 5 1 v ([]:List Int).length (([]:List Int).map (Value.int .u8))):=⟨_,rfl,World.ownsRow_nil _ _ _ _⟩;have I:=κ M;clear M;by_cases h0:b.length=0
 ·have e:xL b=([],false):=by unfold xL;rw[if_pos (List.length_eq_zero_iff.1 h0)]
  rw[e];have Y:(b.length:Int)=0:=by omega
  clear d h e H
  go_enter func60,ntmps60
  go_wp2
  go_ret2
  exact⟨I.o,rfl⟩
 ·obtain⟨aa,N,rfl,ap,aj⟩:=d (b.length-1) τ;have ae:=ad (b.length-1);have Y:((b.length:Int)==0)=false:=by rw[beq_eq_false_iff_ne];omega
  have G: ¬b=[]:=λe=>h0 (by rw[e];rfl)
  have e:xL b=if b.getD (b.length-1) 0=0∨(b.length:Int)<b.getD (b.length-1) 0 then ([],false) else (b.take (b.length-(b.getD (b.length-1) 0).toNat),true):=by unfold xL;rw[if_neg G]
  have hi:((b.length:Int)-1).toNat=b.length-1:=by omega
  have ai:(b.length:Int)-1<(b.length:Int):=by omega
  have af:0<=(b.length:Int)-1:=by omega
  have ah:1<=(b.length:Int):=by omega
  generalize b.getD (b.length-1) 0=x at *;obtain⟨an,ak⟩:=ae;by_cases hx0:x=0
  ·rw[if_pos (Or.inl hx0)] at e;rw[e];subst hx0;clear d h e H h0 G
   go_enter func60,ntmps60
   go_wp2
   go_ret2
   exact⟨I.o,rfl⟩
  ·have al:(x==0)=false:=by simpa using hx0
   by_cases hxl:(b.length:Int)<x
   ·rw[if_pos (Or.inr hxl)] at e;rw[e];clear d h e H h0 G hx0
    go_enter func60,ntmps60
    go_wp2
    go_ret2
    exact⟨I.o,rfl⟩
   ·rw[if_neg τ] at e;rw[e];have s1:(b.length:Int)-x<=(cap:Int):=by omega
    have s2:((b.length:Int)-x).toNat=b.length-x.toNat:=by omega
    have O:=κ (Pf U.o (n:=b.length-x.toNat) τ τ);have ab:=κ s2;clear d h e h0 G hx0 H
    go_enter func60,ntmps60
    go_wp2
    go_ret2
    exact⟨⟨δ (some ⟨aa,N,none⟩) (b.length-x.toNat) cap,by first | rfl | rw[ab.o],by have:=O.o;rw[List.length_take,List.map_take,Nat.min_eq_left (Nat.sub_le _ _)] at this;exact this⟩,rfl⟩
theorem HdS.grow {w0 w w':World} {R hi Br Bd:Nat} {s:RdS} {q:Pk} {vs v':Value} {l:List Int} (h:HdS w0 w R hi Br Bd s q vs (δ none 0 0) (δ none 0 0)) (he:q.ex=[]) (hp:q.pl=[]) (ho:w'.ownsRow (Bd+1) 37 1 v' l.length (l.map (Value.int .u32))) (g:w.grownBy w' vs.ownBlock):
  HdS w0 (w'.setCell ⟨Bd,5,none⟩ v') R hi Br Bd s {q with ss:=l} v' (δ none 0 0) (δ none 0 0):=by
 have h0:=h.n0;have h1:=h.nR;have h2:=h.n1;have h5:=h.n5;have hge: ∀z,vs.ownBlock=some z->Bd+1<=z:=λz hz=>jG h.rs hz
 have aG:qg (λz=>vs.ownBlock=some z) w w':=⟨g.os,g.tape,g.output,g.size,λk hk hs=>g.block k hk (λe=>hs e.symm)⟩;have a:qg (λb=>b=Bd) w' (w'.setCell ⟨Bd,5,none⟩ v'):=(qg.refl (λb=>b=Bd) w').set (p:=⟨Bd,5,none⟩) rfl _;have hR: ¬vs.ownBlock=some R:=λe=>by have:=hge R e;omega
 have hBr: ¬vs.ownBlock=some Br:=λe=>by have:=hge Br e;omega
 have hBd: ¬vs.ownBlock=some Bd:=λe=>by have:=hge Bd e;omega
 refine⟨(h.rd.off aG hR (λz hz e=>by have:=hge z e;omega)).off a τ (λz hz e=>by omega), ?_,a.blk (aG.blk h.br hBr) τ,qB (qp (aG.blk h.bd hBd) 5 v') rfl,xC ho a (λk hk=>by omega), ?_, ?_,h.n0,h.nR,h.n1,h.n5⟩
 ·exact(qg.to_more h.more aG (λk hk=>by have:=hge k hk;omega)).st (p:=⟨Bd,5,none⟩) (by show _<=Bd;omega) _
 ·show World.ownsRow _ _ _ _ _ q.ex.length (q.ex.map _);rw[he];exact World.ownsRow_nil _ _ _ _
 ·show World.ownsRow _ _ _ _ _ q.pl.length (q.pl.map _);rw[hp];exact World.ownsRow_nil _ _ _ _
theorem qa.st10 {w0 w:World} (m:qa w0 w) (B:Nat) (hB:w0.heap.size<=B) (v0 v1 v2 v3 v4 v5 v6 v7 v8 v9:Value):
  qa w0 ((((((((((w.setCell ⟨B,0,none⟩ v0).setCell ⟨B,1,none⟩ v1).setCell ⟨B,2,none⟩ v2).setCell ⟨B,3,none⟩ v3).setCell ⟨B,4,none⟩ v4).setCell ⟨B,5,none⟩ v5).setCell ⟨B,6,none⟩ v6).setCell ⟨B,7,none⟩ v7).setCell ⟨B,8,none⟩ v8).setCell ⟨B,9,none⟩ v9):=
 (((((((((m.st (p:=⟨B,0,none⟩) hB v0).st (p:=⟨B,1,none⟩) hB v1).st (p:=⟨B,2,none⟩) hB v2).st (p:=⟨B,3,none⟩) hB v3).st (p:=⟨B,4,none⟩) hB v4).st (p:=⟨B,5,none⟩) hB v5).st (p:=⟨B,6,none⟩) hB v6).st (p:=⟨B,7,none⟩) hB v7).st (p:=⟨B,8,none⟩) hB v8).st (p:=⟨B,9,none⟩) hB v9
theorem Di (w:World) (B:Nat) (v0 v1 v2 v3 v4 v5 v6 v7 v8 v9:Value):
  qg (λb=>b=B) w ((((((((((w.setCell ⟨B,0,none⟩ v0).setCell ⟨B,1,none⟩ v1).setCell ⟨B,2,none⟩ v2).setCell ⟨B,3,none⟩ v3).setCell ⟨B,4,none⟩ v4).setCell ⟨B,5,none⟩ v5).setCell ⟨B,6,none⟩ v6).setCell ⟨B,7,none⟩ v7).setCell ⟨B,8,none⟩ v8).setCell ⟨B,9,none⟩ v9):=
 ((((((((((qg.refl (λb=>b=B) w).set (p:=⟨B,0,none⟩) rfl v0).set (p:=⟨B,1,none⟩) rfl v1).set (p:=⟨B,2,none⟩) rfl v2).set (p:=⟨B,3,none⟩) rfl v3).set (p:=⟨B,4,none⟩) rfl v4).set (p:=⟨B,5,none⟩) rfl v5).set (p:=⟨B,6,none⟩) rfl v6).set (p:=⟨B,7,none⟩) rfl v7).set (p:=⟨B,8,none⟩) rfl v8).set (p:=⟨B,9,none⟩) rfl v9
theorem KQ (l:List Int) (e:Int):tkB l (l.length:Int)=l/\tkL l (l.length:Int)=[]/\tkE l (l.length:Int) e=e:=by
 refine⟨?_, ?_, ?_⟩
 ·unfold tkB;simp
 ·unfold tkL;simp
 ·unfold tkE;rw[if_neg τ]
theorem kP {w:World} {base e:Nat} {v:Value} {xs:List Value} {n:Nat} (h:w.ownsRow base e 1 v n xs):(n:Int)<=9223372036854775807:=by
 rcases h.2 with ⟨-,rfl⟩ | ⟨g,cap,cur,-,-,-,h1,h2,-⟩
 ·omega
 ·unfold maxLen at h2;omega
theorem AO {w:World} {B:Nat} {t:TypeId} {a0 a1 a2 a3 a4 a5 a6 a7 a8 a9:Value} (h:w.heap[B]? =some (.cells #[a0,a1,a2,a3,a4,a5,a6,a7,a8,a9] t (0,0))) (v0 v1 v2 v3 v4 v5 v6 v7 v8 v9:Value):
  ((((((((((w.setCell ⟨B,0,none⟩ v0).setCell ⟨B,1,none⟩ v1).setCell ⟨B,2,none⟩ v2).setCell ⟨B,3,none⟩ v3).setCell ⟨B,4,none⟩ v4).setCell ⟨B,5,none⟩ v5).setCell ⟨B,6,none⟩ v6).setCell ⟨B,7,none⟩ v7).setCell ⟨B,8,none⟩ v8).setCell ⟨B,9,none⟩ v9).heap[B]? =some (.cells #[v0,v1,v2,v3,v4,v5,v6,v7,v8,v9] t (0,0)):=
 by
 have h:=qB (cs':= #[v0,a1,a2,a3,a4,a5,a6,a7,a8,a9]) (qp h 0 v0) rfl;have h:=qB (cs':= #[v0,v1,a2,a3,a4,a5,a6,a7,a8,a9]) (qp h 1 v1) rfl;have h:=qB (cs':= #[v0,v1,v2,a3,a4,a5,a6,a7,a8,a9]) (qp h 2 v2) rfl;have h:=qB (cs':= #[v0,v1,v2,v3,a4,a5,a6,a7,a8,a9]) (qp h 3 v3) rfl;have h:=qB (cs':= #[v0,v1,v2,v3,v4,a5,a6,a7,a8,a9]) (qp h 4 v4) rfl;have h:=qB (cs':= #[v0,v1,v2,v3,v4,v5,a6,a7,a8,a9]) (qp h 5 v5) rfl;have h:=qB (cs':= #[v0,v1,v2,v3,v4,v5,v6,a7,a8,a9]) (qp h 6 v6) rfl;have h:=qB (cs':= #[v0,v1,v2,v3,v4,v5,v6,v7,a8,a9]) (qp h 7 v7) rfl;have h:=qB (cs':= #[v0,v1,v2,v3,v4,v5,v6,v7,v8,a9]) (qp h 8 v8) rfl;have h:=qB (cs':= #[v0,v1,v2,v3,v4,v5,v6,v7,v8,v9]) (qp h 9 v9) rfl;exact h
theorem YK {w:World} {B:Nat} {t:TypeId} {a0 a1 a2 a3 a4 a5 a6 a7 a8 a9:Value} (h:w.heap[B]? =some (.cells #[a0,a1,a2,a3,a4,a5,a6,a7,a8,a9] t (0,0))):w.cell? ⟨B,0,none⟩=some a0/\w.cell? ⟨B,1,none⟩=some a1/\w.cell? ⟨B,2,none⟩=some a2/\w.cell? ⟨B,3,none⟩=some a3/\w.cell? ⟨B,4,none⟩=some a4/\w.cell? ⟨B,5,none⟩=some a5/\w.cell? ⟨B,6,none⟩=some a6/\w.cell? ⟨B,7,none⟩=some a7/\w.cell? ⟨B,8,none⟩=some a8/\w.cell? ⟨B,9,none⟩=some a9:=
 ⟨qb h 0 rfl,qb h 1 rfl,qb h 2 rfl,qb h 3 rfl,qb h 4 rfl,qb h 5 rfl,qb h 6 rfl,qb h 7 rfl,qb h 8 rfl,qb h 9 rfl⟩
theorem ID {w:World} {B:Nat} {t:TypeId} {a0 a1 a2 a3 a4 a5 a6 a7 a8 a9:Value} (h:w.heap[B]? =some (.cells #[a0,a1,a2,a3,a4,a5,a6,a7,a8,a9] t (0,0))):w.frozen? ⟨B,0,none⟩=false/\w.frozen? ⟨B,1,none⟩=false/\w.frozen? ⟨B,2,none⟩=false/\w.frozen? ⟨B,3,none⟩=false/\w.frozen? ⟨B,4,none⟩=false/\w.frozen? ⟨B,5,none⟩=false/\w.frozen? ⟨B,6,none⟩=false/\w.frozen? ⟨B,7,none⟩=false/\w.frozen? ⟨B,8,none⟩=false/\w.frozen? ⟨B,9,none⟩=false:=
 ⟨qd h 0,qd h 1,qd h 2,qd h 3,qd h 4,qd h 5,qd h 6,qd h 7,qd h 8,qd h 9⟩
theorem WD {w0 w:World} {B:Nat} {t:TypeId} {a0 a1 a2 a3 a4 a5 a6 a7 a8 a9:Value} (m:qa w0 w) (hB:w0.heap.size<=B) (h:w.heap[B]? =some (.cells #[a0,a1,a2,a3,a4,a5,a6,a7,a8,a9] t (0,0))) (v0 v1 v2 v3 v4 v5 v6 v7 v8 v9:Value):
  ∃WF,((((((((((w.setCell ⟨B,0,none⟩ v0).setCell ⟨B,1,none⟩ v1).setCell ⟨B,2,none⟩ v2).setCell ⟨B,3,none⟩ v3).setCell ⟨B,4,none⟩ v4).setCell ⟨B,5,none⟩ v5).setCell ⟨B,6,none⟩ v6).setCell ⟨B,7,none⟩ v7).setCell ⟨B,8,none⟩ v8).setCell ⟨B,9,none⟩ v9)=WF/\qa w0 WF/\qg (λb=>b=B) w WF/\WF.cell? ⟨B,0,none⟩=some v0/\WF.cell? ⟨B,1,none⟩=some v1/\WF.cell? ⟨B,2,none⟩=some v2/\WF.cell? ⟨B,3,none⟩=some v3/\WF.cell? ⟨B,4,none⟩=some v4/\WF.cell? ⟨B,5,none⟩=some v5/\WF.cell? ⟨B,6,none⟩=some v6/\WF.cell? ⟨B,7,none⟩=some v7/\WF.cell? ⟨B,8,none⟩=some v8/\WF.cell? ⟨B,9,none⟩=some v9:=
 ⟨_,rfl,m.st10 B hB v0 v1 v2 v3 v4 v5 v6 v7 v8 v9,Di w B v0 v1 v2 v3 v4 v5 v6 v7 v8 v9,YK (AO h v0 v1 v2 v3 v4 v5 v6 v7 v8 v9)⟩
def Xq (r:Pk×Int) (w:World) (e:Ending) (w':World):Prop:=
 ∃vs ve vp,e= .returned (.tuple #[.agg #[.bool r.1.mr,.int .u8 r.1.ty,.int .u16 r.1.sq,.int .u32 r.1.st,.int .u32 r.1.sc,vs,.bool r.1.has,.int .u16 r.1.pr,ve,vp],.int .i64 r.2])/\PkS w' vs ve vp r.1/\qa w w'
def yS (r:Pk×Int) (w:World) (e:Ending) (w':World):Prop:=
 ∃vs ve vp,e= .returned (.tuple #[.agg #[.bool r.1.mr,.int .u8 r.1.ty,.int .u16 r.1.sq,.int .u32 r.1.st,.int .u32 r.1.sc,vs,.bool r.1.has,.int .u16 r.1.pr,ve,vp],.int .i64 r.2])/\PkS w' vs ve vp r.1/\qa w w'/\ ∀b,(vs.ownBlock=some b∨ve.ownBlock=some b∨vp.ownBlock=some b)->w.heap.size<=b
theorem yS.post {r:Pk×Int} {w w':World} {e:Ending} (h:yS r w e w'):Xq r w e w':=by
 obtain⟨vs,ve,vp,h1,h2,h3,_⟩:=h;exact⟨vs,ve,vp,h1,h2,h3⟩
theorem VB {w:World} (b:Nat) (h:(δ none 0 0).ownBlock=some b∨(δ none 0 0).ownBlock=some b∨(δ none 0 0).ownBlock=some b):w.heap.size<=b:=by
 rcases h with h | h | h<;>cases h
theorem JH {s:RdS} (h:Byt s.1) (k:Nat) (hk:k<=4):0<=num (tkB s.1 k)/\num (tkB s.1 k)<2 ^ (8* k):=zv (tkB s.1 k) k (jL h k) (zh s.1 k τ) τ
def s9H (f:Int) (s:RdS):RdS:=if bit f 32 then (if (xL s.1).2 then ([],s.2) else wrS ([],s.2) 2) else ([],s.2)
def l9H (f:Int) (s:RdS):List Int:=if bit f 32 then (xL s.1).1 else s.1
theorem Ek {f:Int} {s:RdS} (h:Jm s):(s9H f s).2=(vB f s).2/\(s9H f s).1=[]/\((vB f s).2=0->l9H f s=(vB f s).1):=by
 obtain⟨l,e⟩:=s;unfold s9H vB l9H bit;by_cases he:e=0
 ·subst he;by_cases h1:f/32%2=1
  ·simp only[h1,decide_true,if_true,not_true,if_false];by_cases h2:(xL l).2=true
   ·simp[h2]
   ·simp only[h2];unfold wrS;simp
  ·simp[h1]
 ·have hl:l=[]:=h he;subst hl;by_cases h1:f/32%2=1
  ·have hu:(xL []).2=false:=rfl;simp[h1,hu,wrS,he]
  ·simp[h1,he]
theorem Jc (v:Value) (b:List Int) (w:World) (sl:SlI .u8 w v b) (hl:(200:Int)<b.length):
  Calls prog 14 #[v] w (yS (jl b) w):=by
 have e:jl b=(pk0,4):=by unfold jl;rw[if_pos hl]
 rw[e];obtain⟨ob,cb,rfl,_⟩:=sl;clear e
 go_enter func14,ntmps14
 go_wp2
 (refine bodyPost_ret (v:= .tuple #[Γc,ι 4]) ?rr1 rfl ?_;(case rr1=>(simp[results,results14,go_sem])))
 refine⟨δ none 0 0,δ none 0 0,δ none 0 0,rfl,⟨SlI.nil _ _,SlI.nil _ _,SlI.nil _ _⟩, ?_,VB⟩;exact qa.alloc _ _
theorem Qd (v:Value) (b:List Int) (w:World) (sl:SlI .u8 w v b) (hb:Byt b) (hl: ¬(200:Int)<b.length):
  Calls prog 14 #[v] w (yS (jl b) w):=by
 obtain⟨i0,hi',hz0,hz1,hz2⟩:=info_parts (P:=prog) (e:=37) (z:= ω 0) (size:=1) (bytes:=4) ξ;have SL:=κ (sl.keep (qa.alloc w (.cells Γc 55)));have hrd:jl b=JJ b (yj (fH b) (yy (fH b) (s5H b))):=by unfold jl;rw[if_neg hl]
 have b1:Byt (s1H b).1:=hb.drop _;have b2:Byt (s2H b).1:=b1.drop _;have b3:Byt (s3H b).1:=b2.drop _;have b4:Byt (s4H b).1:=b3.drop _;have u1:=JH (s:=(b,0)) hb 1 ζ;have u2:=JH b1 1 ζ;obtain⟨f,hf⟩:=ν (fH b);obtain⟨g,hg⟩:=ν (gH b);obtain⟨sq,hsq⟩: ∃x,num (tkB (s2H b).1 2)=x:=⟨_,rfl⟩;obtain⟨st,hst⟩: ∃x,num (tkB (s3H b).1 4)=x:=⟨_,rfl⟩;obtain⟨sc,hsc⟩: ∃x,num (tkB (s4H b).1 4)=x:=⟨_,rfl⟩;have f0:0<=f/\f<=255:=by rw[<-hf];have h1:num (tkB b 1)<256:=u1.2;have h0:0<=num (tkB b 1):=u1.1;unfold fH;omega
 have g0:0<=g/\g<=255:=by rw[<-hg];have h1:num (tkB (s1H b).1 1)<256:=u2.2;have h0:0<=num (tkB (s1H b).1 1):=u2.1;unfold gH;omega
 have E1:Hid (num (tkB b 1)=f):=κ hf;have E2:Hid (num (tkB (s1H b).1 1)=g):=κ hg;have E3:=κ hsq;have E4:=κ hst;have E5:=κ hsc;have hga:=(Gd g0).1;have hfa:=(Gd f0).2;have hfb:=(JW f0).2.2.2;have hfc:=(JW f0).2.2.1;have hmk: ∀x l,mkH b x l=⟨decide (128<=g),g%128,sq,st,sc,x.1,bit f 16,x.2.1,x.2.2,l⟩:=λx l=>by unfold mkH bit;rw[hf,hg,hsq,hst,hsc]
 have hen: ∀x,JJ b x=if (vB f x.2).2=0 then (mkH b x.1 (vB f x.2).1,0) else (pk0,(vB f x.2).2):=λx=>by unfold JJ;rw[hf]
 rw[hf] at hrd;obtain⟨S6,hS6⟩:=ν (yy f (s5H b));have hsh6:Jm S6:=by
  rw[<-hS6];have h5:Jm (s5H b):=by rw[WI];exact vj _ _
  unfold yy wrS;split
  ·split
   ·exact h5
   ·intro _;rfl
  ·exact h5
 rw[hS6] at hrd;rw[hrd,hen,hmk];obtain⟨X,hX⟩:=ν (yj f S6);rw[hX];obtain⟨⟨L7,P7,X7⟩,S8⟩:=X;have hx0:(L7=(j9 (f%16).toNat S6).1)/\(bit f 16=true->P7=(Qj (j9 (f%16).toNat S6).2).1.1/\X7=(Qj (j9 (f%16).toNat S6).2).1.2/\S8=(Qj (j9 (f%16).toNat S6).2).2)/\(bit f 16=false->P7=0/\X7=[]/\S8=(j9 (f%16).toNat S6).2):=by
  unfold yj at hX;unfold bit;by_cases h1:f/16%2=1
  ·rw[if_pos h1] at hX;cases hX;simp[h1]
  ·rw[if_neg h1] at hX;cases hX;simp[h1]
 clear hX;have HS6:=κ hS6;obtain⟨f0,f1⟩:=f0;obtain⟨g0,g1⟩:=g0;have hs9t:bit f 32=true->s9H f S8=(if (xL S8.1).2 then ([],S8.2) else wrS ([],S8.2) 2)/\l9H f S8=(xL S8.1).1:=λh=>by unfold s9H l9H;simp[h]
 have hs9f:bit f 32=false->s9H f S8=([],S8.2)/\l9H f S8=S8.1:=λh=>by unfold s9H l9H;simp[h]
 have hs9p:=λh=> @Ek f S8 h
 obtain⟨S9,hS9⟩:=ν (s9H f S8);obtain⟨L9,hL9⟩:=ν (l9H f S8);obtain⟨FH,hFH⟩:=ν (bit f 16);obtain⟨FP,hFP⟩:=ν (bit f 32);rw[hS9,hL9,hFP] at hs9t hs9f;rw[hS9,hL9] at hs9p;rw[hFH] at hx0 hfb ⊢;rw[hFP] at hfc;obtain⟨PL,hPL⟩:=ν ((vB f S8).1);obtain⟨PE,hPE⟩:=ν ((vB f S8).2);rw[hPL,hPE] at hs9p ⊢;have H9T:=κ hs9t;have H9F:=κ hs9f;have H9P:=κ hs9p;clear hs9t hs9f hs9p hS9 hL9 hFH hFP hPL hPE;obtain⟨QR,hQR⟩: ∃QR:Pk×Int,(if PE=0 then (Pk.mk (decide (128<=g)) (g%128) sq st sc L7 FH P7 X7 PL,(0:Int)) else (pk0,PE))=QR:=⟨_,rfl⟩;rw[hQR];obtain⟨ob,cb,rfl,-⟩:=sl;have hgm:0<=g%128/\g%128<=127:=by omega
 obtain⟨NS,hNS⟩: ∃NS:Nat,f%16=(NS:Int):=⟨(f%16).toNat,τ⟩;have hns15:NS<=15:=by omega
 have hnst:(f%16).toNat=NS:=by omega
 rw[hNS] at hfa;rw[hnst] at hx0;have HX0:=κ hx0;clear hx0;have HNST:=κ hnst;clear hrd b1 b2 b3 b4 u1 u2 hf hg hsq hst hsc hmk hen hS6 hsh6 hNS hnst;obtain⟨GM,hGM⟩:=ν (g%128);rw[hGM] at hga hgm hQR;have HQ:=κ hQR;clear hQR;obtain⟨gm0,gm1⟩:=hgm;clear hGM;have hb200:b.length<=1000000:=by omega
 go_enter func14,ntmps14
 go_upto_region 10 with (first | (go_at_call 53;(go_call km _ b _ SL.o hb hb200 as e w2 ⟨R,rfl,hR,hr,hm⟩;have H0:=κ (HdS.begin rfl hR hr hm);clear hR hr hm)) | (go_at_call 54;((with_reducible refine(jT H0.o.rd).mono ?_);rintro e w3 ⟨rfl,r3,a3⟩;rw[E1.o];have H1:=κ (H0.o.step (s':=s1H b) r3 a3);clear r3 a3)) | (go_at_call 54;((with_reducible refine(jT H1.o.rd).mono ?_);rintro e w4 ⟨rfl,r4,a4⟩;rw[E2.o];have H2:=κ (H1.o.step (s':=s2H b) r4 a4);clear r4 a4;have x0:=β0 H2.o.bd;have z0:=qd H2.o.bd 0;have x1:=β1 H2.o.bd;have z1:=qd H2.o.bd 1;have H3:Hid (HdS w ((w4.setCell ⟨w2.heap.size,0,none⟩ (μ (decide (128<=g)))).setCell ⟨w2.heap.size,1,none⟩ (υ GM)) R w2.heap.size w.heap.size w2.heap.size (s2H b) ⟨(decide (128<=g)),GM,0,0,0,[],false,0,[],[]⟩ (δ none 0 0) (δ none 0 0) (δ none 0 0)):=κ ((H2.o.scal 0 (μ (decide (128<=g))) ⟨(decide (128<=g)),0,0,0,0,[],false,0,[],[]⟩ rfl rfl rfl rfl).scal 1 (υ GM) ⟨(decide (128<=g)),GM,0,0,0,[],false,0,[],[]⟩ rfl rfl rfl rfl))) | (go_at_call 55;(go_call xn H3.o.rd as e w5 ⟨rfl,r5,a5⟩;rw[E3.o];have H4:=κ (H3.o.step (s':=s3H b) r5 a5);clear r5 a5 x0 z0 x1 z1;have x2:=β2 H4.o.bd;have z2:=qd H4.o.bd 2;have H5:Hid (HdS w (w5.setCell ⟨w2.heap.size,2,none⟩ (φ sq)) R w2.heap.size w.heap.size w2.heap.size (s3H b) ⟨(decide (128<=g)),GM,sq,0,0,[],false,0,[],[]⟩ (δ none 0 0) (δ none 0 0) (δ none 0 0)):=κ (H4.o.scal 2 (φ sq) ⟨(decide (128<=g)),GM,sq,0,0,[],false,0,[],[]⟩ rfl rfl rfl rfl))) | (go_at_call 56;((with_reducible refine(jD H5.o.rd).mono ?_);rintro e w6 ⟨rfl,r6,a6⟩;rw[E4.o];have H6:=κ (H5.o.step (s':=s4H b) r6 a6);clear r6 a6 x2 z2;have x3:=β3 H6.o.bd;have z3:=qd H6.o.bd 3;have H7:Hid (HdS w (w6.setCell ⟨w2.heap.size,3,none⟩ (ω st)) R w2.heap.size w.heap.size w2.heap.size (s4H b) ⟨(decide (128<=g)),GM,sq,st,0,[],false,0,[],[]⟩ (δ none 0 0) (δ none 0 0) (δ none 0 0)):=κ (H6.o.scal 3 (ω st) ⟨(decide (128<=g)),GM,sq,st,0,[],false,0,[],[]⟩ rfl rfl rfl rfl))) | (go_at_call 56;((with_reducible refine(jD H7.o.rd).mono ?_);rintro e w7 ⟨rfl,r7,a7⟩;rw[E5.o];have H8:=κ (H7.o.step (s':=s5H b) r7 a7);clear r7 a7 x3 z3;have x4:=β4 H8.o.bd;have z4:=qd H8.o.bd 4;have H9:Hid (HdS w (w7.setCell ⟨w2.heap.size,4,none⟩ (ω sc)) R w2.heap.size w.heap.size w2.heap.size (s5H b) ⟨(decide (128<=g)),GM,sq,st,sc,[],false,0,[],[]⟩ (δ none 0 0) (δ none 0 0) (δ none 0 0)):=κ (H8.o.scal 4 (ω sc) ⟨(decide (128<=g)),GM,sq,st,sc,[],false,0,[],[]⟩ rfl rfl rfl rfl))))
 generalize w7.setCell ⟨w2.heap.size,4,none⟩ (ω sc)=W9 at *;generalize w2.heap.size=hi at *;clear H0 H1 H2 H3 H4 H5 H6 H7 H8 x4 z4 SL E1 E2 E3 E4 E5;obtain⟨FB,fb1,fb2⟩: ∃FB:Bool,(FB=true->(f<128∨191<f))/\(FB=false-> ¬(f<128∨191<f)):=⟨decide (f<128∨191<f),λh=>by simpa using h,λh=>by simpa using h⟩;have FB1:=κ fb1;have FB2:=κ fb2;clear fb1 fb2
 go_cut [46] from 41 (λs46 wx=>s46= μ FB/\wx=W9)
 case first=>
  cases FB with
  | true=>
   have hh:=FB1.o η;by_cases h1:f<128
   ·clear hh;go_wp2;go_meet;exact⟨rfl,rfl⟩
   ·have h2:191<f:=by omega
    clear hh;go_wp2;go_meet;exact⟨rfl,rfl⟩
  | false=>
   have hh:=FB2.o η;have h1: ¬f<128:=by omega
   have h2: ¬191<f:=by omega
   clear hh;go_wp2;go_meet;exact⟨rfl,rfl⟩
 case rest=>
 obtain⟨rfl,rfl⟩:=hcut
 go_upto_if 46 with fail
 go_cut [] from 47 (λwx=>HdS w wx R hi w.heap.size hi S6 ⟨(decide (128<=g)),GM,sq,st,sc,[],false,0,[],[]⟩ (δ none 0 0) (δ none 0 0) (δ none 0 0))
 case first=>
  cases FB with
  | true=>
   have hS:yy f (s5H b)=wrS (s5H b) 2:=by unfold yy;rw[if_pos (FB1.o η)]
   have HX:=κ (HS6.o.symm.trans hS);clear hS
   go_wp2_with (go_at_call 57;(go_call zo H9.o.rd 2 as e w10 ⟨rfl,r10,a10⟩;have H10:=κ (H9.o.step (s':=wrS (s5H b) 2) r10 a10);clear r10 a10))
   go_meet;rw[HX.o];exact H10.o
  | false=>
   have hS:yy f (s5H b)=s5H b:=by unfold yy;rw[if_neg (FB2.o η)]
   have HX:=κ (HS6.o.symm.trans hS);clear hS;go_wp2;go_meet;rw[HX.o];exact H9.o
 case rest=>
 have HC:=κ hcut;clear hcut H9 FB1 FB2 HS6;go_wp2
 go_loopw [51] (λi wr=> ∃k:Nat,k<=NS/\i= υ k/\ ∃vs,HdS w wr R hi w.heap.size hi (j9 k S6).2 ⟨(decide (128<=g)),GM,sq,st,sc,(j9 k S6).1,false,0,[],[]⟩ vs (δ none 0 0) (δ none 0 0)) (λi _=>NS-(intOf i).toNat)
 case atStart=>exact⟨0,τ,rfl,_,HC.o⟩
 case round=>
  obtain⟨k,hk,rfl,vs,hwx⟩:=hrel;have HW:=κ hwx;by_cases hlt:k<NS
  ·have hki:(k:Int)<(NS:Int):=by omega
   have hll:=gN k S6;have HLL:=κ hll;obtain⟨os,ns,cs,rfl,hns,_⟩:=qT hwx.rs;subst hns;have hbd: ¬(hi=R∨(δ os (j9 k S6).1.length cs).ownBlock=some hi):=by
    rintro(e | e)
    ·have:=HW.o.n1;omega
    ·have:=jG HW.o.rs e;omega
   have C5:=λ(x:qz (λb=>b=R∨(δ os (j9 k S6).1.length cs).ownBlock=some b) wr)=>β5 (x.h.blk HW.o.bd hbd)
   clear hwx hll
   go_wp2_with fail
   refine QN (λb=>b=R∨(δ os (j9 k S6).1.length cs).ownBlock=some b) wr 7 8 [3,4,5,7] ?_
   refine Qs ?_
   (refine Ql ?_;intro K hK)
   refine(jD (HW.o.rd.more (qa.drewN _ 1))).mono ?_;rintro e w8 ⟨rfl,r8,a8⟩;have a8':qg (λb=>b=R∨(δ os (j9 k S6).1.length cs).ownBlock=some b) wr w8:=((qg.refl _ _).drewN _).trans (a8.mono λb h=>Or.inl h);refine⟨_,rfl,qi a8',hK _ _ ?_⟩;clear hK K
   (refine Ql ?_;intro K hK)
   have a9:=a8'.more (qa.alloc w8 (.cells #[ω (num (tkB (j9 k S6).2.1 4))] 37));refine⟨qi a9,hK _ _ ?_⟩;clear hK K;have J8:=(HW.o.on (qa.drewN wr 1)).step (s':=tkS (j9 k S6).2 4) r8 a8;have J9:=J8.on (qa.alloc w8 (.cells #[ω (num (tkB (j9 k S6).2.1 4))] 37))
   (refine jR rfl rfl ?_;intro K hK)
   refine XU (.tmp 54) (.tmp 57) 53 rfl (hi+1) 37 i0 (ω 0) 4 underlying53 hi' hz0 hz1 hz2 rfl (δ os (j9 k S6).1.length cs) .u32 (j9 k S6).1 rfl J9.rs (δ (some ⟨w8.heap.size,0,none⟩) 1 1) [num (tkB (j9 k S6).2.1 4)] rfl (SlI.of_owns (World.ownsRow_lit (e:=37) (size:=1) (base:=w8.heap.size) w8 #[ω (num (tkB (j9 k S6).2.1 4))] 1 (Nat.le_refl _) (by unfold maxLen;omega) rfl) η) (by rw[HLL.o];simp;omega) ζ (by have:=qn J9.bd;omega) ?_;intro v10 w10 ho10 hg10 hb10;have a10:qg (λb=>b=R∨(δ os (j9 k S6).1.length cs).ownBlock=some b) wr w10:=a9.trans ⟨hg10.os,hg10.tape,hg10.output,hg10.size,λk hk hs=>hg10.block k hk (λe=>hs (Or.inr e.symm))⟩;have J10:=κ (J9.grow rfl rfl ho10 hg10);have q5:w10.cell? ⟨hi,5,none⟩=some (δ os (j9 k S6).1.length cs):=by
    have:w10.heap[hi]? =_:=(hg10.block hi (qn J9.bd) (λe=>by have:=jG J9.rs e.symm;omega)).trans J9.bd;exact qb this 5 rfl
   have z5:w10.frozen? ⟨hi,5,none⟩=false:=by
    have:w10.heap[hi]? =_:=(hg10.block hi (qn J9.bd) (λe=>by have:=jG J9.rs e.symm;omega)).trans J9.bd;exact qd this 5
   obtain⟨o10,n10,c10,rfl,hz8,hz9⟩:=qT ho10;clear hz8 hz9 ho10 hg10 hb10;refine⟨qi a10,hK _ _ ?_⟩;clear hK K;go_simp
   iterate 1 (refine qE rfl rfl (qi a10) ?_;intro K hK;go_big_quiet_op;go_big_quiet_on)
   (refine Qe ?_;intro K hK)
   refine hK _ _ ?_;clear hK K;refine qA ?_;go_wp2;go_roundw
   case rel=>exact⟨k+1,τ,by go_num,_,J10.o⟩
   case measure=>simp[intOf];omega
  ·obtain rfl:k=NS:=by omega
   have hki: ¬(k:Int)<(k:Int):=by omega
   clear hwx HC hk hlt;obtain⟨hx1,hx2,hx3⟩:=HX0.o;have hw:=HW.o;rw[<-hx1] at hw;obtain⟨S7,hS7⟩:=ν ((j9 k S6).2);rw[hS7] at hw hx2 hx3;have b7:=hw.rd.byt;have u7:=JH (s:=S7) b7 2 ζ;have u8:=JH (s:=tkS S7 2) (b7.drop _) 2 ζ;unfold Qj at hx2;obtain⟨N7,hN7⟩: ∃x,num (tkB S7.1 2)=x:=⟨_,rfl⟩;obtain⟨N8,hN8⟩: ∃x,num (tkB (tkS S7 2).1 2)=x:=⟨_,rfl⟩;have u7:0<=num (tkB S7.1 2)/\num (tkB S7.1 2)<65536:=u7;have u8:0<=num (tkB (tkS S7 2).1 2)/\num (tkB (tkS S7 2).1 2)<65536:=u8;rw[hN7] at hx2 u7;rw[hN8] at hx2 u8;obtain⟨u70,u71⟩:=u7;obtain⟨u80,u81⟩:=u8;have EN7:=κ hN7;have EN8:=κ hN8;have HB:=κ hw;have HX2:=κ hx2;have HX3:=κ hx3;clear hw hx1 hx2 hx3 hS7 HW HX0 b7 hN7 hN8 HNST;have x6:=β6 HB.o.bd;have z6:=qd HB.o.bd 6;have H1:Hid (HdS w (wr.setCell ⟨hi,6,none⟩ (μ FH)) R hi w.heap.size hi S7 ⟨(decide (128<=g)),GM,sq,st,sc,L7,FH,0,[],[]⟩ vs (δ none 0 0) (δ none 0 0)):=κ (HB.o.scal 6 (μ FH) ⟨(decide (128<=g)),GM,sq,st,sc,L7,FH,0,[],[]⟩ rfl rfl rfl rfl)
   go_upto_if 66 with fail
   go_cut [] from 67 (λwx=> ∃ve,HdS w wx R hi w.heap.size hi S8 ⟨(decide (128<=g)),GM,sq,st,sc,L7,FH,P7,X7,[]⟩ vs ve (δ none 0 0))
   case first=>
    cases FH with
    | false=>
     go_wp2;go_meet;obtain⟨e1,e2,e3⟩:=HX3.o η;rw[e1,e2,e3];exact⟨_,H1.o⟩
    | true=>
     go_wp2_with (first | (go_at_call 55;((with_reducible refine(xn H1.o.rd).mono ?_);rintro e wa ⟨rfl,ra,aa⟩;rw[EN7.o];have H2:=κ (H1.o.step (s':=tkS S7 2) ra aa);clear ra aa x6 z6;have x7:=β7 H2.o.bd;have z7:=qd H2.o.bd 7;have H3:Hid (HdS w (wa.setCell ⟨hi,7,none⟩ (φ N7)) R hi w.heap.size hi (tkS S7 2) ⟨(decide (128<=g)),GM,sq,st,sc,L7,true,N7,[],[]⟩ vs (δ none 0 0) (δ none 0 0)):=κ (H2.o.scal 7 (φ N7) ⟨(decide (128<=g)),GM,sq,st,sc,L7,true,N7,[],[]⟩ rfl rfl rfl rfl))) | (go_at_call 55;((with_reducible refine(xn H3.o.rd).mono ?_);rintro e wb ⟨rfl,rb,ab⟩;rw[EN8.o];have H4:=κ (H3.o.step (s':=tkS (tkS S7 2) 2) rb ab);clear rb ab x7 z7)) | (go_at_call 58;(go_call QI (4* N8) H4.o.rd as e we ⟨v8,rfl,o8,rc,ac⟩;have H5:=κ (H4.o.step (s':=tkS (tkS (tkS S7 2) 2) (4* N8)) rc ac);have O8:=κ (kq o8 (show hi+1<=wb.heap.size from by have:=qn H4.o.bd;omega));clear rc ac o8;have x8:=β8 H5.o.bd;have z8:=qd H5.o.bd 8;obtain⟨o8,n8,c8,rfl,-,-⟩:=qT O8.o)))
     go_meet;obtain⟨e1,e2,e3⟩:=HX2.o η;rw[e1,e2,e3];exact⟨_,H5.o.fill 8 (δ o8 n8 c8) (q':=⟨(decide (128<=g)),GM,sq,st,sc,L7,true,N7,(tkB (tkS (tkS S7 2) 2).1 (4* N8)),[]⟩) rfl H5.o.rs O8.o H5.o.rp⟩
   case rest=>
    obtain⟨ve,hc⟩:=hcut;have HC:=κ hc;have hb8:=hc.rd.byt;have hl8:=hc.rd.small;have hsh:=hc.rd.shut;have HB8:=κ hb8;have HP:=κ (H9P.o hsh);clear hc H1 HB HX2 HX3 EN7 EN8 x6 z6 H9P hsh hb8
    go_upto_if 84 with (first | (go_at_call 59;(go_call zn HC.o.rd as e wd ⟨rfl,rfl⟩)) | (go_at_call 58;(go_call QI (S8.1.length:Int) HC.o.rd as e we ⟨v9,rfl,o9,rd,ad⟩;rw[(KQ S8.1 S8.2).1] at o9;rw[(KQ S8.1 S8.2).2.1,(KQ S8.1 S8.2).2.2] at rd;have H5:=κ (HC.o.step (s':=([],S8.2)) rd ad);have O9:=κ (kq o9 (show hi+1<=_ from by have:=qn HC.o.bd;omega));clear rd ad o9;have x9:=β9 H5.o.bd;have z9:=qd H5.o.bd 9;obtain⟨o9,n9,c9,rfl,hn9,-⟩:=qT O9.o;subst hn9;have H6:=κ (H5.o.fill 9 (δ o9 S8.1.length c9) (q':=⟨(decide (128<=g)),GM,sq,st,sc,L7,FH,P7,X7,S8.1⟩) rfl H5.o.rs H5.o.re O9.o))))
    go_cut [8,9] from 85 (λs8 s9 wx=> ∃vp,HdS w wx R hi w.heap.size hi S9 ⟨(decide (128<=g)),GM,sq,st,sc,L7,FH,P7,X7,L9⟩ vs ve vp)
    case first=>
     cases FP with
     | false=>
      go_wp2;go_meet;obtain⟨e1,e2⟩:=H9F.o η;rw[e1,e2];exact⟨_,H6.o⟩
     | true=>
      obtain⟨U,hU⟩:=ν ((xL S8.1).2);have h9:=H9T.o η;rw[hU] at h9;have HU:=κ hU;have H9:=κ h9;clear h9 hU;cases U with
      | true=>
       go_wp2_with (go_at_call 60;(go_call XK o9 c9 S8.1 (hi+1) _ H6.o.rp HB8.o hl8 as e wf ⟨⟨v10,rfl,o10⟩,rfl⟩;rw[HU.o];have O10:=κ o10;clear o10;obtain⟨o10,n10,c10,rfl,-,-⟩:=qT O10.o))
       go_meet;obtain⟨e1,e2⟩:=H9.o;rw[e1,e2,if_pos trivial];exact⟨_,H6.o.fill 9 (δ o10 n10 c10) (q':=⟨(decide (128<=g)),GM,sq,st,sc,L7,FH,P7,X7,(xL S8.1).1⟩) rfl H6.o.rs H6.o.re O10.o⟩
      | false=>
       go_wp2_with (first | (go_at_call 60;(go_call XK o9 c9 S8.1 (hi+1) _ H6.o.rp HB8.o hl8 as e wf ⟨⟨v10,rfl,o10⟩,rfl⟩;rw[HU.o];have O10:=κ o10;clear o10;obtain⟨o10,n10,c10,rfl,-,-⟩:=qT O10.o)) | (go_at_call 57;(go_call zo H6.o.rd 2 as e wg ⟨rfl,rg,ag⟩;have O11:=κ (xC O10.o ag (λk hk=>by have:=H6.o.n1;omega));have H7:=κ (H6.o.step (s':=wrS ([],S8.2) 2) rg ag);clear rg ag;have x9':=β9 H7.o.bd;have z9':=qd H7.o.bd 9)))
       go_meet;obtain⟨e1,e2⟩:=H9.o;rw[e1,e2,if_neg η];exact⟨_,H7.o.fill 9 (δ o10 n10 c10) (q':=⟨(decide (128<=g)),GM,sq,st,sc,L7,FH,P7,X7,(xL S8.1).1⟩) rfl H7.o.rs H7.o.re O11.o⟩
    case rest=>
     obtain⟨vp,hc⟩:=hcut;have HE:=κ hc;clear hc H6 H5 HC H9T H9F x9 z9 O9 HB8;obtain⟨hp1,hp2,hp3⟩:=HP.o;have hev:(if ¬S9.2=0 then S9.2 else if 0<S9.1.length then 4 else 0)=PE:=by
      rw[<-hp1,hp2];by_cases h0:S9.2=0<;>simp[h0]
     have HEV:=κ hev;have HP3:=κ hp3;clear hev hp1 hp2 hp3 HP;obtain⟨os,ns,cs,rfl,-,-⟩:=qT HE.o.rs;obtain⟨oe,ne,ce,rfl,-,-⟩:=qT HE.o.re;obtain⟨op,np,cp,rfl,-,-⟩:=qT HE.o.rp;obtain⟨y0,y1,y2,y3,y4,y5,y6,y7,y8,y9⟩:=YK HE.o.bd
     dsimp only at y0 y1 y2 y3 y4 y5 y6 y7 y8 y9
     obtain⟨g0,g1,g2,g3,g4,g5,g6,g7,g8,g9⟩:=YK HE.o.br;obtain⟨k0,k1,k2,k3,k4,k5,k6,k7,k8,k9⟩:=ID HE.o.br;by_cases h0:PE=0
     ·have hq:=HQ.o;rw[if_pos h0,<-HP3.o h0] at hq;have HQ2:=κ hq;clear hq HQ HP3;subst h0
      go_wp2_with (go_at_call 61;(go_call yT HE.o.rd as e wh ⟨rfl,rfl⟩;rw[HEV.o]))
      obtain⟨WF,hWF,mf,aw,r0,r1,r2,r3,r4,r5,r6,r7,r8,r9⟩:=WD HE.o.more (Nat.le_refl _) HE.o.br (μ (decide (128<=g))) (υ GM) (φ sq) (ω st) (ω sc) (δ os ns cs) (μ FH) (φ P7) (δ oe ne ce) (δ op np cp);clear g0 g1 g2 g3 g4 g5 g6 g7 g8 g9 k0 k1 k2 k3 k4 k5 k6 k7 k8 k9 y0 y1 y2 y3 y4 y5 y6 y7 y8 y9;rw[hWF];clear hWF
      (refine bodyPost_ret (v:= .tuple #[θ #[μ (decide (128<=g)),υ GM,φ sq,ω st,ω sc,δ os ns cs,FH,φ P7,δ oe ne ce,δ op np cp],ι 0]) ?rr2 rfl ?_;(case rr2=>(simp[results,results14,go_sem,r0,r1,r2,r3,r4,r5,r6,r7,r8,r9])))
      rw[<-HQ2.o]
      refine⟨δ os ns cs,δ oe ne ce,δ op np cp,rfl, ?_,mf,λb hb=>(by
       have:=HE.o.n0;have:=HE.o.n1;have:=HE.o.nR;have:=HE.o.n5;rcases hb with e | e | e
       ·have:=jG HE.o.rs e;omega
       ·have:=jG HE.o.re e;omega
       ·have:=jG HE.o.rp e;omega)⟩
      have:=HE.o.n1;have:=HE.o.nR;have:=HE.o.n5;exact⟨SlI.of_owns (xC HE.o.rs aw (λk hk=>by omega)) (kP HE.o.rs),SlI.of_owns (xC HE.o.re aw (λk hk=>by omega)) (kP HE.o.re),SlI.of_owns (xC HE.o.rp aw (λk hk=>by omega)) (kP HE.o.rp)⟩
     ·have hq:=HQ.o;rw[if_neg h0] at hq;have HQ2:=κ hq;have h0b:(PE != 0)=true:=by simpa using h0
      clear hq HQ HP3
      go_wp2_with (go_at_call 61;(go_call yT HE.o.rd as e wh ⟨rfl,rfl⟩;rw[HEV.o]))
      obtain⟨WF,hWF,mf,aw,r0,r1,r2,r3,r4,r5,r6,r7,r8,r9⟩:=WD HE.o.more (Nat.le_refl _) HE.o.br (μ false) (υ 0) (φ 0) (ω 0) (ω 0) (δ none 0 0) (μ false) (φ 0) (δ none 0 0) (δ none 0 0);clear g0 g1 g2 g3 g4 g5 g6 g7 g8 g9 k0 k1 k2 k3 k4 k5 k6 k7 k8 k9 y0 y1 y2 y3 y4 y5 y6 y7 y8 y9;rw[hWF];clear hWF
      (refine bodyPost_ret (v:= .tuple #[Γc,ι PE]) ?rr3 rfl ?_;(case rr3=>(simp[results,results14,go_sem,r0,r1,r2,r3,r4,r5,r6,r7,r8,r9])))
      rw[<-HQ2.o];exact⟨δ none 0 0,δ none 0 0,δ none 0 0,rfl,⟨SlI.nil _ _,SlI.nil _ _,SlI.nil _ _⟩,mf,VB⟩
theorem Wc (v:Value) (b:List Int) (w:World) (sl:SlI .u8 w v b) (hl:(200:Int)<b.length):Calls prog 14 #[v] w (Xq (jl b) w):=(Jc v b w sl hl).mono λ_ _ h=>h.post
theorem Ky (v:Value) (b:List Int) (w:World) (sl:SlI .u8 w v b) (hb:Byt b) (hl: ¬(200:Int)<b.length):Calls prog 14 #[v] w (Xq (jl b) w):=(Qd v b w sl hb hl).mono λ_ _ h=>h.post
structure Gr where
 wanted:Bool
 any:Bool
 last:Int
 tries:Int
structure zu where
 buf:Jb
 any:Bool
 great:Int
 asks:Gr
 askedOf:Bool
structure AcS where
 o:Og
 num:Int
 pk:Pk
structure RqS where
 o:Og
 at_:Int
 body:List Int
structure CfR where
 room:Int
 hold:Int
 wait:Int
 space:Int
 retry:Int
 most:Int
structure CnR where
 lost:Int
 malf:Int
 strange:Int
 told:Int
 acc:Int
structure RmS where
 cfg:CfR
 closed:Bool
 ret:List (Og×Bool)
 clock:Int
 queue:List (List Int)
 tab:TS
 lanes:List (Int×LnS)
 strs:List (Og×zu)
 pks:List AcS
 reqs:List RqS
 cnt:CnR
 book:Bk
def subIds:List Int:=[0,1,2,3,4,5]
def orgs:List Og:=[(0,0),(0,1),(0,2),(1,0),(1,1),(1,2),(2,0),(2,1),(2,2)]
def prR (pr:Sb->Bool) (u:List (Int×Sb)):List Int:=subIds.filter λx=>match qh u x with
 | some sb=>pr sb
 | none=>false
def RmS.origins (s:RmS):List Og:=orgs.filter λo=>(qh s.strs o).isSome
def RmS.readyAt (s:RmS) (o:Og):Bool:=match qh s.strs o with
 | some t=>xa t.buf s.clock
 | none=>false
def RmS.ready (s:RmS):Option Og:=s.origins.find? s.readyAt
def wO (l:LnS) (k:Int):Bool:=l.wanted&&(!l.gone&&(!decide (l.cur=l.tgt)&&decide (l.tgt=k)))
def RmS.wants (s:RmS) (o:Og):Bool:=(match qh s.strs o with
 | some t=>t.askedOf
 | none=>false)||(prR (j8 o.1) s.tab.u).any λx=>match qh s.lanes x with
 | some l=>wO l o.2
 | none=>false
def Zc (retry:Int):Nat->Int->Int
 | 0,g=>g
 | k+1,g=>if g<1∨retry<=g then g else Zc retry k (2* g)
def Yg (space retry tries:Int):Int:=if Zc retry (tries-1).toNat space<=retry then Zc retry (tries-1).toNat space else retry
def uq (a:Gr) (wanted:Bool):Int:=if wanted&&a.wanted then a.tries else 0
def Hc (space retry:Int) (a:Gr) (wanted:Bool) (now:Int):Bool:= !wanted||(a.any&&decide (now-a.last<Yg space retry (uq a wanted)))
def vU (space retry:Int) (a:Gr) (wanted:Bool) (now:Int):Gr×Bool:=
 if Hc space retry a wanted now then (⟨wanted,a.any,a.last,uq a wanted⟩,false) else (⟨wanted,true,now,uq a wanted+1⟩,true)
abbrev Zb (src:Int):qQ:=(1,206,qy 0 4++qy src 4,())
def ug (src:Int):List Int:=(vW [Zb src]).1
def RmS.request (s:RmS) (o:Og):RmS:={s with reqs:=s.reqs++[⟨o,s.clock,ug ((qh s.tab.s o).getD 0)⟩]}
def RmS.tick1 (s:RmS) (o:Og):RmS:=match qh s.strs o with
 | none=>s
 | some t=>if (vU s.cfg.space s.cfg.retry t.asks (s.wants o) s.clock).2
  then {s with strs:=qx s.strs o {t with asks:=(vU s.cfg.space s.cfg.retry t.asks (s.wants o) s.clock).1}}.request o
  else {s with strs:=qx s.strs o {t with asks:=(vU s.cfg.space s.cfg.retry t.asks (s.wants o) s.clock).1}}
def RmS.tick (s:RmS):RmS×Int:=if s.closed then (s,7) else (s.origins.foldl RmS.tick1 {s with clock:=s.clock+1},0)
def yp (subs:List Int):List Og:=(0,0)::(1,0)::(subIds.filter λx=>decide (x∈subs)).flatMap λx=>[(2,x),(3,x),(4,x)]
def RmS.there (s:RmS):List Int:=subIds.filter λx=>(qh s.lanes x).isSome
def RmS.workers (s:RmS):List Og:=yp s.there
def xB (n:Int):Int:=if n=2 then 1 else if n=3 then 2 else 3
def RmS.mayOpen (s:RmS) (w:Og):Bool:=
 if w.1=0 then decide (0<s.queue.length) else if w.1=1 then s.ready.isSome else match qh s.lanes w.2 with
 | some l=>vC l (xB w.1)
 | none=>false
def RmS.may (s:RmS) (w:Og):Bool:=decide (w∈s.workers)&&(if s.closed then !((qh s.ret w).getD false) else s.mayOpen w)
def jp (b:Bk) (sub id f:Int):Bk:=if qh b (sub,id)=some 0 then (zi b (sub,id) f).1 else b
def RmS.tell1 (s:RmS) (x:Int):RmS:=match qh s.tab.u x with
 | none=>s
 | some sb=>if sb.2.1 then (match qh s.lanes x with
  | none=>s
  | some l=>if l.wanted&&jj l.cur then (match qh s.strs (sb.2.2,l.cur) with
   | none=>s
   | some t=>{s with strs:=qx s.strs (sb.2.2,l.cur) {t with askedOf:=true}}) else s) else s
def RmS.tellS (s:RmS) (src:Int):RmS:=(prR (zV src) s.tab.u).foldl RmS.tell1 s
def RmS.tell (s:RmS) (b:List Int):RmS:=
 if (zx b).2=0 then (xU (zx b).1).foldl RmS.tellS {s with cnt:={s.cnt with told:=s.cnt.told+1}} else {s with cnt:={s.cnt with malf:=s.cnt.malf+1}}
def KH (near sq:Int):Int:=near+ahd (near%65536) sq
def yV (t:zu) (sq:Int):Int:=if t.any then KH t.great sq else 65536+sq
def Ji (b:Bk) (subs:List Int) (id:Int):Bk:=subs.foldl (λb x=>(vT b (x,id)).1) b
def xG (b:Bk) (subs:List Int) (id f:Int):Bk:=subs.foldl (λb x=>jp b x id f) b
def yY (e:Int):Int:=if e=10 then 3 else if e=9 then 2 else if e=8 then 6 else 0
def Ye (t:zu) (p:Pk) (clock id:Int):zu:=
 ⟨(jP t.buf (yV t p.sq) clock id).1,true,if t.any=false∨t.great<yV t p.sq then yV t p.sq else t.great,t.asks,if zJ p.pl then false else t.askedOf⟩
def RmS.accept (s:RmS) (o:Og) (p:Pk):RmS:=match qh s.strs o with
 | none=>s
 | some t=>{s with
   strs:=qx s.strs o (Ye t p s.clock s.pks.length)
   pks:=s.pks++[⟨o,yV t p.sq,p⟩]
   cnt:={s.cnt with acc:=s.cnt.acc+1}
   book:=if yY (jP t.buf (yV t p.sq) s.clock s.pks.length).2=0 then Ji s.book (prR (j8 o.1) s.tab.u) s.pks.length
    else xG (Ji s.book (prR (j8 o.1) s.tab.u) s.pks.length) (prR (j8 o.1) s.tab.u) s.pks.length (yY (jP t.buf (yV t p.sq) s.clock s.pks.length).2)}
def Ve (b:List Int):Bool:=decide (2<=b.length)&&(decide (192<=b.getD 1 0)&&decide (b.getD 1 0<=223))
def RmS.media (s:RmS) (b:List Int):RmS:=
 if (jl b).2=0 then (match qh s.tab.o (jl b).1.sc with
  | none=>{s with cnt:={s.cnt with strange:=s.cnt.strange+1}}
  | some o=>s.accept o (jl b).1) else {s with cnt:={s.cnt with malf:=s.cnt.malf+1}}
def RmS.read (s:RmS):RmS:=match s.queue with
 | []=>s
 | b::q=>if Ve b then {s with queue:=q}.tell b else {s with queue:=q}.media b
def RmS.put1 (x:ItS) (s:RmS) (sub:Int):RmS:=if qh s.book (sub,x.id)=some 0 then (match qh s.lanes sub with
 | none=>s
 | some l=>if (xp l x).2.2.1 then {s with lanes:=qx s.lanes sub (xp l x).1,book:=jp s.book sub (xp l x).2.1 6} else {s with lanes:=qx s.lanes sub (xp l x).1}) else s
def ac0:AcS:=⟨(0,0),0,pk0⟩
def RmS.item (s:RmS) (o:Og) (id:Int):ItS:=⟨id,o.2,zJ (s.pks.getD id.toNat ac0).pk.pl,(s.pks.getD id.toNat ac0).pk⟩
def RmS.orderAt (s:RmS) (o:Og) (t:zu):RmS:=
 subIds.foldl (RmS.put1 (s.item o (yD t.buf s.clock).2.2.1)) {s with strs:=qx s.strs o {t with buf:=(yD t.buf s.clock).1}}
def RmS.order (s:RmS):RmS:=match s.ready with
 | none=>s
 | some o=>(match qh s.strs o with
  | none=>s
  | some t=>s.orderAt o t)
def RmS.choose (s:RmS) (sub:Int):RmS:=match qh s.lanes sub with
 | none=>s
 | some l=>{s with
   lanes:=qx s.lanes sub (jf l).1
   book:=if (jf l).2.2.2&& !decide ((jf l).2.2.1=0) then jp s.book sub (jf l).2.1 (jf l).2.2.1 else s.book}
def RmS.rewrite (s:RmS) (sub:Int):RmS:=match qh s.lanes sub with
 | none=>s
 | some l=>{s with
   lanes:=qx s.lanes sub (qY l).1
   book:=if (qY l).2.2.2&&(qY l).2.2.1 then jp s.book sub (qY l).2.1 6 else s.book}
def RmS.write (s:RmS) (sub:Int) (acc:Bool):RmS:=match qh s.lanes sub with
 | none=>s
 | some l=>{s with
   lanes:=qx s.lanes sub (qX l acc).1
   tab:=if (qX l acc).1.gone then (zM s.tab sub).1 else s.tab
   book:=if (qX l acc).1.gone then vM (if (qX l acc).2.2.2&&decide ((qX l acc).2.2.1=1) then jp s.book sub (qX l acc).2.1 (qX l acc).2.2.1 else s.book) sub 7
    else if (qX l acc).2.2.2&&decide ((qX l acc).2.2.1=1) then jp s.book sub (qX l acc).2.1 (qX l acc).2.2.1 else s.book}
def RmS.drain1 (s:RmS) (id:Int):RmS:={s with book:=xG s.book subIds id 8}
def RmS.drainO (s:RmS) (o:Og):RmS:=match qh s.strs o with
 | none=>s
 | some t=>(thJ t.buf.holds).foldl RmS.drain1 {s with strs:=qx s.strs o {t with buf:=vP t.buf}}
def KG (l:LnS) (n:Int):List Int:=if n=1 then l.A.map (·.id) else if n=2 then l.B.map (·.1.id) else l.C.map (·.1)
def RmS.drainL (s:RmS) (w:Og):RmS:=match qh s.lanes w.2 with
 | none=>s
 | some l=>{s with
   lanes:=qx s.lanes w.2 (vh l (xB w.1))
   book:=(KG l (xB w.1)).foldl (λb id=>jp b w.2 id 8) s.book}
def RmS.drain (s:RmS) (w:Og):RmS:=
 if w.1=0 then {s with queue:=[],cnt:={s.cnt with lost:=s.cnt.lost+s.queue.length}}
 else if w.1=1 then s.origins.foldl RmS.drainO s
 else s.drainL w
def vi (w:Og):Og×Bool:=if w.1=0 then ((0,0),false) else if w.1=1 then ((0,0),true) else if w.1=2 then ((1,0),true) else ((w.1-1,w.2),true)
def RmS.goesR (s:RmS) (w:Og):Bool:= !(vi w).2||(qh s.ret (vi w).1).getD false
def RmS.endW (s:RmS) (w:Og):RmS:=if s.goesR w then {s.drain w with ret:=qx s.ret w true} else s.drain w
def RmS.stepW (s:RmS) (w:Og) (acc:Bool):RmS:=
 if s.closed then s.endW w else if w.1=0 then s.read else if w.1=1 then s.order else if w.1=2 then s.choose w.2 else if w.1=3 then s.rewrite w.2 else s.write w.2 acc
def RmS.pick (s:RmS) (w:Og) (acc:Bool):RmS×Bool:=if s.may w then (s.stepW w acc,true) else (s,false)
def xY (c:CfR):Bool:=decide (1<=c.room/\c.room<=8)&&(decide (gt c.hold c.wait)&&(decide (1<=c.space/\c.space<=c.retry/\c.retry<=1000)&&decide (1<=c.most/\c.most<=10)))
def ud (c:CfR):RmS:=⟨c,false,[],0,[],⟨[],[],[]⟩,[],[],[],[],⟨0,0,0,0,0⟩,[]⟩
def uc (c:CfR):zu:=⟨CU c.hold c.wait,false,0,⟨false,false,0,0⟩,false⟩
def RmS.publish (s:RmS) (p s0 s1 s2:Int):RmS×Int:=
 if s.closed then (s,7) else if (vA s.tab p s0 s1 s2).2=0 then ({s with tab:=(vA s.tab p s0 s1 s2).1,strs:=qx (qx (qx s.strs (p,0) (uc s.cfg)) (p,1) (uc s.cfg)) (p,2) (uc s.cfg)},0) else (s,(vA s.tab p s0 s1 s2).2)
def RmS.join (s:RmS) (x own sq st:Int):RmS×Int:=
 if s.closed then (s,7) else if (yI s.tab x own).2=0 then ({s with tab:=(yI s.tab x own).1,lanes:=qx s.lanes x (Vd s.cfg.room.toNat s.cfg.most own sq st)},0) else (s,(yI s.tab x own).2)
def Yh {K V:Type} [DecidableEq K] (m:List (K×V)) (x:K):List (K×V):=m.filter λp=> !decide (p.1=x)
def JV (s:RmS) (x:Int):Bool:=match qh s.lanes x with
 | some l=>l.gone
 | none=>false
def RmS.subscribe (s:RmS) (x p k:Int):RmS×Int:=
 if s.closed then (s,7) else if jj k=false then (s,1) else if JV s x then (s,5) else if (vL s.tab x p).2=0 then (match qh s.lanes x with
  | none=>(s,0)
  | some l=>({s with tab:=(vL s.tab x p).1,lanes:=qx s.lanes x (jO l k).1},(jO l k).2)) else (s,(vL s.tab x p).2)
def RmS.want (s:RmS) (x k:Int):RmS×Int:=
 if s.closed then (s,7) else if (decide (0<=x/\x<6)&&jj k)=false then (s,1) else if ((qh s.tab.u x).getD sb0).2.1=false then (s,5) else (match qh s.lanes x with
  | none=>(s,0)
  | some l=>({s with lanes:=qx s.lanes x (jO l k).1},(jO l k).2))
def RmS.leave (s:RmS) (x:Int):RmS×Int:=
 if s.closed then (s,7) else if (zW s.tab x).2=0 then ({s with tab:=(zW s.tab x).1,book:=vM s.book x 7,lanes:=Yh s.lanes x},0) else (s,(zW s.tab x).2)
def RmS.arrive (s:RmS) (b:List Int):RmS×Int:=
 if s.closed then (s,7) else if (s.queue.length:Int)<s.cfg.room then ({s with queue:=s.queue++[b]},0) else ({s with queue:=s.queue.tail++[b],cnt:={s.cnt with lost:=s.cnt.lost+1}},0)
def RmS.shut (s:RmS):RmS×Int:=if s.closed then (s,7) else ({s with closed:=true},0)
def RmS.ended (s:RmS):Bool:=s.closed&&decide (s.ret.length=s.workers.length)
def RmS.held (s:RmS):Nat:=(s.origins.map λo=>match qh s.strs o with
 | some t=>t.buf.holds.length
 | none=>0).sum
def Γl (x:AcS) (a:Option Addr) (b:Nat) (c:Option Addr) (d:Nat) (e:Option Addr) (f:Nat):Mm:=.o
instance (x:AcS) (a:Option Addr) (b:Nat) (c:Option Addr) (d:Nat) (e:Option Addr) (f:Nat):CoeDep Mm (Γl x a b c d e f) (List Value):=⟨[ι x.o.1,ι x.o.2,ι x.num,μ x.pk.mr,υ x.pk.ty,φ x.pk.sq,ω x.pk.st,ω x.pk.sc,δ a x.pk.ss.length b,μ x.pk.has,φ x.pk.pr,δ c x.pk.ex.length d,δ e x.pk.pl.length f]⟩
instance (x:AcS) (a:Option Addr) (b:Nat) (c:Option Addr) (d:Nat) (e:Option Addr) (f:Nat):CoeDep Mm (Γl x a b c d e f) (Array Value):=⟨#[ι x.o.1,ι x.o.2,ι x.num,μ x.pk.mr,υ x.pk.ty,φ x.pk.sq,ω x.pk.st,ω x.pk.sc,δ a x.pk.ss.length b,μ x.pk.has,φ x.pk.pr,δ c x.pk.ex.length d,δ e x.pk.pl.length f]⟩
instance (x:AcS) (a:Option Addr) (b:Nat) (c:Option Addr) (d:Nat) (e:Option Addr) (f:Nat):CoeDep Mm (Γl x a b c d e f) Value:=⟨θ #[ι x.o.1,ι x.o.2,ι x.num,μ x.pk.mr,υ x.pk.ty,φ x.pk.sq,ω x.pk.st,ω x.pk.sc,δ a x.pk.ss.length b,μ x.pk.has,φ x.pk.pr,δ c x.pk.ex.length d,δ e x.pk.pl.length f]⟩
theorem F9 (w:World) (R A room first:Nat) (c:List Value) (T:List (List Value)) (ad ac O ab:Int) (css:List (List Value)) (h:qN 2 294 107 w R A room first (c::T) ad ac O ab css):
  Calls prog 160 #[γ R] w λe w'=>e= .returned (.tuple #[θ c.toArray,true])/\qa w w':=by
 have U:=κ h;have I:=h.ofHead;have J:c.toArray.size=2:=by simpa using I.1
 have aa:=h.fst;have aj:(first:Int)<(room:Int):=by have:=h.fst;omega
 have ag:0<=(first:Int):=by omega
 have ai:(((c::T).length:Int)==0)=false:=by simp;omega
 have Y:(w.alloc (.cells Γs 107)).cell? ⟨R,2,none⟩=some (ι (c::T).length):=qb (qs h.ring _) 2 rfl;clear h
 go_enter func160,ntmps160
 go_wp2;obtain⟨W1,H⟩:=ν (w.alloc (.cells Γs 107));have N:Hid (qa w W1):=κ (by rw[<-H];exact qa.alloc _ _);have G:=κ (U.o.more N.o);have M:Hid (W1.heap[w.heap.size]? =some (.cells Γs 107 (0,0))):=κ (by rw[<-H];exact qj w _);rw[H];clear H Y;have ak: ∀x:qt W1,x.w'.cell? ⟨R,0,none⟩=some (δ (some ⟨A,0,none⟩) room room):=λx=>x.cell (qn G.o.ring) (qb G.o.ring 0 rfl)
 have ah: ∀x:qt W1,x.w'.cell? ⟨R,1,none⟩=some (ι first):=λx=>x.cell (qn G.o.ring) (qb G.o.ring 1 rfl)
 have af: ∀x:qt W1,x.w'.rangeAt A (first* 2) c:=λx=>by have:=(G.o.more x.h).range aa;rw[G.o.head] at this;exact this
 refine Qn W1 10 12 [10,11] ?_
 iterate 9 (refine qE rfl rfl (qk ρ) ?_;intro K d;go_big_quiet_op;go_big_quiet_on)
 refine jh rfl rfl (qk ρ) 107 (.tmp 19) rfl A (first* 2) rfl c _ (λw' ae=>by obtain⟨x,rfl⟩:=ae;exact af x) underlying107 rfl (by rw[I.1];kernel_rfl) ?_;intro K d;go_simp;refine d _ ?_;clear d K;refine zY rfl rfl ζ ?_;intro K d;refine jr 107 (.tmp 2) (.tmp 20) rfl w.heap.size 107 _ c.toArray rfl rfl (qr M.o 1) (by rw[J];kernel_rfl) (by rw[J];rfl) (all_oneCell_toArray I.2) ?_;refine⟨trivial, ?_⟩;go_simp;refine d _ _ ?_;clear d K
 (refine Qe ?_;intro K d)
 refine d _ _ ?_;clear d K;refine qA ?_;go_wp2;refine bodyPost_ret (v:= .tuple #[θ c.toArray,true]) (yo results160 _ _ w.heap.size 107 c.toArray _ _ rfl rfl (jY (qr M.o 1) _) underlying107 rfl (by rw[J];kernel_rfl)) rfl ?_;exact⟨rfl,(xb _ _ _).to_more (N.o.dr 1) (λk e=>by rw[e];exact Nat.le_refl _)⟩
end Go.Proofs.YtdgippmmaponfaaGreat
