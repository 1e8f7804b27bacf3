/- Contracts of the functions that the law reaches, and plain laws; no conditions but those written at each. -/
import Derived.Test.YtlmllmonabafjaaGreatDoorMg12
namespace Go.Proofs.YtlmllmonabafjaaGreatDoor
open Go.Value renaming bool->μ,slice->δ,pointer->π,agg->θ
open Go.IntKind renaming i64->ι,u8->υ,u16->φ,u32->ω,i32->χ,u64->ψ
open _root_.Go.Proofs.Tryz
set_option linter.unusedSimpArgs false
set_option maxHeartbeats 8000000
set_option linter.unusedVariables false
open Go.RowKit Go.Lib
set_option maxRecDepth 100000
def go (x:Itm):List Int:=if x.kind=2 then (if x.msg.kind=1 then [x.msg.med] else if x.msg.kind=2 then x.msg.asks.map Prod.fst else []) else []
def xU (l:List Itm):List Int:=l.flatMap go
theorem Cr {x:Itm} (h:CY x):(go x).length<=100000:=by
 unfold go;split
 ·split
  ·simp
  ·split
   ·rw[List.length_map];exact h.asks
   ·simp
 ·simp
theorem U6 (l m:List Itm):xU (l++m)=xU l++xU m:=by simp[xU]
theorem U5 (x:Itm):xU [x]=go x:=by simp[xU]
theorem wY: ∀{l:List Itm},(∀x∈l,CY x)->(xU l).length<=l.length* 100000
 | [],_=>by simp[xU]
 | x::l,h=>by
  have G:=Cr (h x η);have H:=wY (l:=l) λy d=>h y (by simp[d])
  show ((go x)++xU l).length<=_;rw[List.length_append,List.length_cons];omega
structure AsJ (w wr:World) (u:Value) (A:List Int):Prop where
 row:wr.ownsRow w.heap.size 38 1 u A.length (A.map (Value.int .u32))
 more:qa w wr
theorem AsJ.on {w wr w':World} {u:Value} {A:List Int} (h:AsJ w wr u A) (m:qa wr w'):AsJ w w' u A:=⟨jE h.row m,h.more.trans m⟩
theorem AsJ.put {w wr w':World} {u d:Value} {A A':List Int} (h:AsJ w wr u A) (H:w'.ownsRow w.heap.size 38 1 d A'.length (A'.map (Value.int .u32))) (g:wr.grownBy w' u.ownBlock):AsJ w w' d A':=
 ⟨H,Below.grown h.more g h.more.size (λk G=>jG h.row G)⟩
theorem Wo (l:List Itm) (v:Value) (w:World) (aG:SlP 17 Qk w v l) (bm:l.length<=1000) (az: ∀x∈l,CY x):
  Calls prog 189 #[v] w λe w'=> ∃vx,e= .returned vx/\(SlI .u32 w' vx (xU l)/\ ∀q,vx.ownBlock=some q->w.heap.size<=q)/\qa w w':=by
 obtain⟨aF,hi,aC,aD,aE⟩:=info_parts (P:=prog) (e:=38) (z:= ω 0) (size:=1) (bytes:=4) ξ;obtain⟨bo,cap,rfl,bn,ax,aT⟩:=Mf aG;have aI:=κ ax;have ao:=κ az;have aO:Hid (AsJ w w (δ none 0 0) []):=κ ⟨World.ownsRow_nil _ _ _ _,qa.refl _⟩;clear aG ax aT az
 go_enter func189,ntmps189
 go_wp2
 go_loopw [3,10] (λu I wr=> ∃j:Nat,j<=l.length/\I= ι j/\AsJ w wr u (xU (l.take j))) (λ_ I _=>l.length-(intOf I).toNat)
 case atStart=>exact⟨0,τ,rfl,aO.o⟩
 case round=>
  obtain⟨j,bk,rfl,O⟩:=hrel;have d:=κ O;clear O;by_cases hlt:j<l.length
  ·obtain⟨b,aW,aj,ae,al,af,am,ag,an,ah,rfl,av,aB,aA⟩:=aI.o j hlt;have aL:=κ (Y0 aB d.o.more av);have ay:l.getD j wL∈l:=by rw[List.getD_eq_getElem?_getD,List.getElem?_eq_getElem hlt];exact List.getElem_mem hlt
   have aK:=κ (ao.o _ ay);have aN:=κ aA.ms.asks;have bl:(j:Int)<(l.length:Int):=by omega
   have bh:b<wr.heap.size:=Nat.lt_of_lt_of_le av d.o.more.size;have ab:Hid (xU (l.take (j+1))=xU (l.take j)++go (l.getD j wL)):=κ (by rw[kv l j wL hlt,U6,U5])
   have aa:Hid ((xU (l.take j)).length<=100000000):=κ (by
    have:=wY (l:=l.take j) λx aV=>ao.o x (List.mem_of_mem_take aV)
    rw[List.length_take] at this
    omega)
   clear aB aA ay;generalize xU (l.take j)=acc at *;generalize l.getD j wL=x at *
   go_upto_region 5 with (first | (refine wpList_load_mid rfl 293 (.tmp 12) rfl b (aW+j* 17) rfl (Γo x aj ae al af am ag an ah) _ aL.o underlying293 rfl ξ ?_) | (refine jU rfl 293 (.tmp 5) (.tmp 13) rfl wr _ (Γo x aj ae al af am ag an ah) rfl rfl rfl ξ rfl rfl ?_))
   obtain⟨ad,ai⟩:=ν (wr.alloc (.cells (Γo x aj ae al af am ag an ah) 293));have ac:Hid (qa wr ad):=κ (by rw[<-ai];exact qa.alloc _ _);have H:Hid (ad.heap[wr.heap.size]? =some (.cells (Γo x aj ae al af am ag an ah) 293 (0,0))):=κ (by rw[<-ai];exact qj _ _);rw[ai];clear ai;have aS:wr.heap.size<ad.heap.size:=qn H.o;have t0:=β0 H.o;have t9:=β9 H.o;have aX:=β11 H.o;have aY:=β12 H.o;have aZ:=β13 H.o;by_cases hk:x.kind=2
   ·have aR:(x.kind != 2)=false:=by simp[hk]
    by_cases h1:x.msg.kind=1
    ·have aP:(x.msg.kind==1)=true:=by simp[h1]
     have G:Hid (go x=[x.msg.med]):=κ (by unfold go;rw[if_pos hk,if_pos h1]);clear hk h1;have N:=κ (d.o.on ac.o)
     go_wp2_with (at_builtin;refine qU _ rfl (.tmp 22) (.tmp 26) 61 rfl w.heap.size 38 aF (ω 0) 4 underlying61 hi aC aD aE rfl _ .u32 acc rfl (N.o.on (qa.alloc _ _)).row _ [x.msg.med] rfl (SlI.lit .u32 ad [x.msg.med] 38 _ 1 _ rfl rfl rfl η) (by have:=aa.o;simp;omega) ζ (by have:=N.o.more.size;simp;omega) ?_;intro v9 w9 Y U aq;have ap:=κ ((N.o.on (qa.alloc _ _)).put Y U);clear Y U aq)
     go_roundw
     case measure=>simp[intOf];omega
     case rel=>exact⟨j+1,τ,by go_num,by rw[ab.o,G.o];exact ap.o⟩
    ·have aP:(x.msg.kind==1)=false:=by simp[h1]
     by_cases h2:x.msg.kind=2
     ·have aQ:(x.msg.kind==2)=true:=by simp[h2]
      have G:Hid (go x=x.msg.asks.map Prod.fst):=κ (by unfold go;rw[if_pos hk,if_neg h1,if_pos h2]);clear hk h1 h2;have N:=κ (d.o.on ac.o);go_wp2;have bc:=κ d.o.more;obtain⟨aH,rfl⟩: ∃aH:World,aH=wr:=⟨_,rfl⟩;have ar:=κ aK.o.asks;generalize x.msg.asks=ak at *;have bf:ak.length<=100000:=ar.o;clear t0 t9 aX aY aZ H aS
      go_loopw [3,34] (λu I wr=> ∃i:Nat,i<=ak.length/\I= ι i/\AsJ w wr u (acc++(ak.take i).map Prod.fst)) (λ_ I _=>ak.length-(intOf I).toNat)
      case atStart=>exact⟨0,τ,rfl,by simpa using N.o⟩
      case round=>
       obtain⟨i,bi,rfl,O⟩:=hrel;have J:=κ O;clear O;by_cases hlt3:i<ak.length
       ·obtain⟨bd,bp,rfl,bg,aw,ba,bb⟩:=Dj aN.o i hlt3;obtain⟨be,c1⟩:=aw _ J.o.more;have bj:(i:Int)<(ak.length:Int):=by omega
        have aM:Hid (acc++(ak.take (i+1)).map Prod.fst=(acc++(ak.take i).map Prod.fst)++[(ak.getD i (0,0)).1]):=κ (by rw[kv ak i (0,0) hlt3,List.map_append,List.append_assoc];rfl);have aJ:Hid ((acc++(ak.take i).map Prod.fst).length<=100100000):=κ (by have:=aa.o;have:=ar.o;rw[List.length_append,List.length_map,List.length_take];omega);clear aw ba bb;generalize acc++(ak.take i).map Prod.fst=acc3 at *;generalize (ak.getD i (0,0)).1=y1 at *;generalize (ak.getD i (0,0)).2=y2 at *;have au:=κ (J.o.on (qa.alloc wr (.cells #[ω y1,υ y2] 421)))
        go_wp2_with (at_builtin;refine qU _ rfl (.tmp 38) (.tmp 41) 61 rfl w.heap.size 38 aF (ω 0) 4 underlying61 hi aC aD aE rfl _ .u32 acc3 rfl (au.o.on (qa.alloc _ _)).row _ [y1] rfl (SlI.lit .u32 (wr.alloc (.cells #[ω y1,υ y2] 421)) [y1] 38 _ 1 _ rfl rfl η η) (by have:=aJ.o;rw[List.length_singleton];omega) ζ (by have:=J.o.more.size;simp;omega) ?_;intro v9 w9 Y U aq;have ap:=κ ((au.o.on (qa.alloc _ _)).put Y U);clear Y U aq)
        go_roundw
        case measure=>simp[intOf];omega
        case rel=>exact⟨i+1,τ,by go_num,by rw[aM.o];exact ap.o⟩
       ·obtain rfl:i=ak.length:=by omega
        rw[List.take_length] at J;go_wp2;go_roundw
        case measure=>simp[intOf];omega
        case rel=>exact⟨j+1,τ,by go_num,by rw[ab.o,G.o];exact J.o⟩
     ·have aQ:(x.msg.kind==2)=false:=by simp[h2]
      have G:Hid (go x=[]):=κ (by unfold go;rw[if_pos hk,if_neg h1,if_neg h2]);clear hk h1 h2;go_wp2;go_roundw
      case measure=>simp[intOf];omega
      case rel=>exact⟨j+1,τ,by go_num,by rw[ab.o,G.o,List.append_nil];exact d.o.on ac.o⟩
   ·have aR:(x.kind != 2)=true:=by simp[hk]
    have G:Hid (go x=[]):=κ (by unfold go;rw[if_neg hk]);clear hk;go_wp2;go_roundw
    case measure=>simp[intOf];omega
    case rel=>exact⟨j+1,τ,by go_num,by rw[ab.o,G.o,List.append_nil];exact d.o.on ac.o⟩
  ·obtain rfl:j=l.length:=by omega
   rw[List.take_length] at d;have aa:Hid ((xU l).length<=100000000):=κ (by have:=wY (l:=l) ao.o;omega);go_wp2;go_ret;exact⟨_,rfl,⟨SlI.of_owns d.o.row (by have:=aa.o;omega),λq aU=>jG d.o.row aU⟩,d.o.more⟩
section
open Go.RowKit
structure Ds where
 lo:Bool
 st:Bool
 pt:Int
 pic:Int
 wd:Bool
 bs:Int
 tr:Int
 sy:Bool
 ky:Int
def ds0:Ds:=⟨false,false,0,0,false,0,0,false,0⟩
def b1 (b:Bool) (n:Int):Int:=if b then n else 0
def nB (s:RdS):Int:=num (tkB s.1 1)
def bit (n k:Int):Bool:=decide (n/k%2=1)
def zd (s:RdS):Int×Int×RdS:=if bit (nB s) 128 then (nB s,nB (tkS s 1),tkS (tkS s 1) 1) else (nB s,0,tkS s 1)
def gk (t:Int) (s:RdS):(Int×Bool)×RdS:=if bit t 128 then (if nB s<128 then ((nB s,false),tkS s 1) else (((nB s-128)* 256+nB (tkS s 1),true),tkS (tkS s 1) 1)) else ((-1,false),s)
def Jl (t:Int) (s:RdS):Int×RdS:=if bit t 64 then (nB s,tkS s 1) else (-1,s)
def QP (t:Int) (s:RdS):Int×RdS:=if bit t 32||bit t 16 then (nB s,tkS s 1) else (0,s)
def mkD (f t:Int) (p:Int×Bool) (b q:Int):Ds:=⟨bit f 32,bit f 16,f%8,p.1,p.2,b,if bit t 32 then q/64 else -1,bit t 32&&bit q 32,if bit t 16 then q%32 else -1⟩
def Zs (f t:Int) (s:RdS):Ds×RdS:=
 (mkD f t (gk t s).1 (Jl t (gk t s).2).1 (QP t (Jl t (gk t s).2).2).1,(QP t (Jl t (gk t s).2).2).2)
def DE (n:Int) (x:Ds×RdS):Ds×Int×Int:=if x.2.2=3 then (ds0,0,3) else (x.1,n-x.2.1.length,0)
def qW (b:List Int):Ds×Int×Int:=DE b.length (Zs (zd (b,0)).1 (zd (b,0)).2.1 (zd (b,0)).2.2)
def zJ (b:List Int):Bool:=
 decide ((qW b).2.2=0)&&(qW b).1.st&&decide ((qW b).1.pt=0)&&decide ((qW b).2.1<b.length)&&decide (b.getD (qW b).2.1.toNat 0%2=0)
end
section
open Go.RowKit
theorem GI (f t:Int) (s:RdS):(Zs f t s).2.1.length<=s.1.length:=by
 have d: ∀s:RdS,(tkS s 1).1.length<=s.1.length:=λs=>by unfold tkS tkL;rw[List.length_drop];omega
 unfold Zs;have H:(gk t s).2.1.length<=s.1.length:=by
  unfold gk;split
  ·split
   ·exact d _
   ·exact Nat.le_trans (d _) (d _)
  ·exact Nat.le_refl _
 have G: ∀s,(Jl t s).2.1.length<=s.1.length:=λs=>by
  unfold Jl;split
  ·exact d _
  ·exact Nat.le_refl _
 have I: ∀s,(QP t s).2.1.length<=s.1.length:=λs=>by
  unfold QP;split
  ·exact d _
  ·exact Nat.le_refl _
 exact Nat.le_trans (I _) (Nat.le_trans (G _) H)
end
section
open Go.RowKit
theorem orB: ∀m:Fin 256,((m.val:Int)/128%2=0->bits .or .u8 (m.val:Int) 128=(m.val:Int)+128)/\((m.val:Int)/64%2=0->bits .or .u8 (m.val:Int) 64=(m.val:Int)+64)/\((m.val:Int)/32%2=0->bits .or .u8 (m.val:Int) 32=(m.val:Int)+32)/\((m.val:Int)/16%2=0->bits .or .u8 (m.val:Int) 16=(m.val:Int)+16):=of_decide_eq_true ξ
theorem Nw {x:Int} (h:0<=x/\x<=255):(x/128%2=0->bits .or .u8 x 128=x+128)/\(x/64%2=0->bits .or .u8 x 64=x+64)/\(x/32%2=0->bits .or .u8 x 32=x+32)/\(x/16%2=0->bits .or .u8 x 16=x+16):=by
 obtain⟨m,rfl⟩:=Int.eq_ofNat_of_zero_le h.1;exact orB ⟨m,τ⟩
theorem Nq: ∀m:Fin 256,(bits .and .u8 (m.val:Int) 128=if bit (m.val:Int) 128 then 128 else 0)/\(bits .and .u8 (m.val:Int) 64=if bit (m.val:Int) 64 then 64 else 0)/\(bits .and .u8 (m.val:Int) 32=if bit (m.val:Int) 32 then 32 else 0)/\(bits .and .u8 (m.val:Int) 16=if bit (m.val:Int) 16 then 16 else 0)/\bits .and .u8 (m.val:Int) 7=(m.val:Int)%8/\((bits .and .u8 (m.val:Int) 48 != 0)=(bit (m.val:Int) 32||bit (m.val:Int) 16)):=of_decide_eq_true ξ
theorem Zw {x:Int} (h:0<=x/\x<=255):(bits .and .u8 x 128=if bit x 128 then 128 else 0)/\(bits .and .u8 x 64=if bit x 64 then 64 else 0)/\(bits .and .u8 x 32=if bit x 32 then 32 else 0)/\(bits .and .u8 x 16=if bit x 16 then 16 else 0)/\bits .and .u8 x 7=x%8/\((bits .and .u8 x 48 != 0)=(bit x 32||bit x 16)):=by
 obtain⟨m,rfl⟩:=Int.eq_ofNat_of_zero_le h.1;exact Nq ⟨m,τ⟩
theorem Mp: ∀m:Fin 256,((bits .and .u8 (m.val:Int) 128 != 0)=bit (m.val:Int) 128)/\((bits .and .u8 (m.val:Int) 64 != 0)=bit (m.val:Int) 64)/\((bits .and .u8 (m.val:Int) 32 != 0)=bit (m.val:Int) 32)/\((bits .and .u8 (m.val:Int) 16 != 0)=bit (m.val:Int) 16):=of_decide_eq_true ξ
theorem JW {x:Int} (h:0<=x/\x<=255):((bits .and .u8 x 128 != 0)=bit x 128)/\((bits .and .u8 x 64 != 0)=bit x 64)/\((bits .and .u8 x 32 != 0)=bit x 32)/\((bits .and .u8 x 16 != 0)=bit x 16):=by
 obtain⟨m,rfl⟩:=Int.eq_ofNat_of_zero_le h.1;exact Mp ⟨m,τ⟩
end
section
open Go.RowKit
structure PrS (w0 w:World) (R hi Br B5 B7 B8:Nat) (s:RdS) (t:Int) (cs:Array Value):Prop where
 rd:qu w R s.1 s.2 (λg=>g<hi)
 more:qa w0 w
 br:w.heap[Br]? =some (.cells #[.bool false,.bool false,.int .u8 0,.int .i64 0,.bool false,.int .i64 0,.int .i64 0,.bool false,.int .i64 0] 366 (0,0))
 b5:w.heap[B5]? =some (.cells #[.pointer (some ⟨R,0,none⟩)] 156 (0,0))
 b7:w.heap[B7]? =some (.cells #[.int .u8 t] 5 (0,0))
 b8:w.heap[B8]? =some (.cells cs 366 (0,0))
 n0:w0.heap.size<=Br
 nR:Br<R
 n1:R<hi
 n5:hi<=B5
 n7:B5<B7
 n8:B7<B8
theorem PrS.step {I w w':World} {R hi Br d G H:Nat} {s s':RdS} {t:Int} {cs:Array Value} (h:PrS I w R hi Br d G H s t cs) (r:qu w' R s'.1 s'.2 (λg=>g<hi)) (a:qg (λb=>b=R) w w'):PrS I w' R hi Br d G H s' t cs:=by
 have:=h.n0;have:=h.nR;have:=h.n1;have:=h.n5;have:=h.n7;have:=h.n8;exact⟨r,qg.to_more h.more a (λk J=>by omega),a.blk h.br τ,a.blk h.b5 τ,a.blk h.b7 τ,a.blk h.b8 τ,h.n0,h.nR,h.n1,h.n5,h.n7,h.n8⟩
theorem PrS.on {I w w':World} {R hi Br d G H:Nat} {s:RdS} {t:Int} {cs:Array Value} (h:PrS I w R hi Br d G H s t cs) (m:qa w w'):PrS I w' R hi Br d G H s t cs:=
 ⟨h.rd.more m,h.more.trans m,qc m h.br,qc m h.b5,qc m h.b7,qc m h.b8,h.n0,h.nR,h.n1,h.n5,h.n7,h.n8⟩
theorem PrS.put8 {I w:World} {R hi Br G H d:Nat} {s:RdS} {t:Int} {cs:Array Value} (h:PrS I w R hi Br G H d s t cs) (i:Nat) (v:Value):PrS I (w.setCell ⟨d,i,none⟩ v) R hi Br G H d s t (cs.setIfInBounds i v):=by
 have:=h.n0;have:=h.nR;have:=h.n1;have:=h.n5;have:=h.n7;have:=h.n8;have a:qg (λb=>b=d) w (w.setCell ⟨d,i,none⟩ v):=(qg.refl (λb=>b=d) w).set (p:=⟨d,i,none⟩) rfl _;exact⟨h.rd.off a τ (λg J e=>by omega),h.more.st (p:=⟨d,i,none⟩) (by show _<=d;omega) _,a.blk h.br τ,a.blk h.b5 τ,a.blk h.b7 τ,qp h.b8 i v,h.n0,h.nR,h.n1,h.n5,h.n7,h.n8⟩
theorem Zt {s:RdS} (h:Byt s.1):0<=nB s/\nB s<=255:=by
 have:=zv (tkB s.1 1) 1 (jL h 1) (zh s.1 1 ζ) ζ;unfold nB;omega
def dC (f pic:Int) (wd:Bool) (bs tr:Int) (sy:Bool) (ky:Int):Array Value:= #[.bool (bit f 32),.bool (bit f 16),.int .u8 (f%8),.int .i64 pic,.bool wd,.int .i64 bs,.int .i64 tr,.bool sy,.int .i64 ky]
def PrQ (w0 w':World) (R hi Br B5 B7 B8 B10:Nat) (s:RdS) (t:Int) (cs:Array Value) (q:Int):Prop:=PrS w0 w' R hi Br B5 B7 B8 s t cs/\w'.heap[B10]? =some (.cells #[.int .u64 q] 231 (0,0))
def CQ (s:RdS):Int:=if nB s<128 then nB s else (nB s-128)* 256+nB (tkS s 1)
def CS (s:RdS):RdS:=if nB s<128 then tkS s 1 else tkS (tkS s 1) 1
def CO (s:RdS):Bool:=decide (¬nB s<128)
theorem FK {ae w:World} {R hi Br J O N:Nat} {s:RdS} {t f:Int} (h:PrS ae w R hi Br J O N s t (dC f 0 false 0 0 false 0)):
  Calls prog 251 #[γ J,γ N] w λe w'=>e= .returned (ι (CQ s))/\PrS ae w' R hi Br J O N (CS s) t (dC f 0 (CO s) 0 0 false 0):=by
 unfold CQ CS CO;have al:=Zt h.rd.byt;have ac:Byt (tkS s 1).1:=h.rd.byt.drop _;have am:=Zt ac;have c5:=β0 h.b5;have H:=κ h;have aa:num (tkB s.1 1)=nB s:=rfl;have ab:num (tkB (tkS s 1).1 1)=nB (tkS s 1):=rfl;have U:=κ aa;have af:=κ ab;clear h aa ab ac;by_cases hn:nB s<128
 ·rw[if_pos hn,if_pos hn,decide_eq_false τ];generalize ah:nB s=q at *;clear ah
  go_enter func251,ntmps251
  go_wp2_with (go_at_call 52;((with_reducible refine(jT H.o.rd).mono ?_);rintro e w1 ⟨rfl,G,d⟩;rw[U.o];have I:=κ (H.o.step (s':=tkS s 1) G d);clear G d))
  go_ret;exact⟨rfl,I.o⟩
 ·rw[if_neg hn,if_neg hn,decide_eq_true τ];generalize nB s=q at *;generalize ai:nB (tkS s 1)=q2 at *;clear ai
  go_enter func251,ntmps251
  go_wp2_with first | (go_at_call 52;((with_reducible refine(jT H.o.rd).mono ?_);rintro e w1 ⟨rfl,G,d⟩;rw[U.o];have I:=κ ((H.o.step (s':=tkS s 1) G d).put8 4 (μ true));have aj:=qb (H.o.step (s':=tkS s 1) G d).b8 4 (v:= μ false) rfl;have an:=qd (H.o.step (s':=tkS s 1) G d).b8 4;have ak:=β0 I.o.b5;clear G d)) | (go_at_call 52;((with_reducible refine(jT I.o.rd).mono ?_);rintro e w2 ⟨rfl,ad,Y⟩;rw[af.o];have ag:=κ (I.o.step (s':=tkS (tkS s 1) 1) ad Y);clear ad Y))
  go_ret;exact⟨rfl,ag.o⟩
theorem FZ {U w:World} {R hi Br d G H:Nat} {s:RdS} {t:Int} {cs:Array Value} (h:PrS U w R hi Br d G H s t cs):
  Calls prog 252 #[γ d] w λe w'=>e= .returned (ι (nB s))/\PrS U w' R hi Br d G H (tkS s 1) t cs:=by
 have ab:=Zt h.rd.byt;have c5:=β0 h.b5;have I:=κ h;have N:num (tkB s.1 1)=nB s:=rfl;have Y:=κ N;clear h N;generalize nB s=q at *
 go_enter func252,ntmps252
 go_wp2_with (go_at_call 52;((with_reducible refine(jT I.o.rd).mono ?_);rintro e w1 ⟨rfl,O,J⟩;rw[Y.o];have aa:=κ (I.o.step (s':=tkS s 1) O J);clear O J))
 go_ret;exact⟨rfl,aa.o⟩
theorem Hg {q:Int} (h:0<=q/\q<=255):fld q 5 1=q/32%2/\fld q 6 2=q/64/\fld q 0 5=q%32:=by
 have t0:two 0=1:=by decide
 have t1:two 1=2:=by decide
 have t2:two 2=4:=by decide
 have t5:two 5=32:=by decide
 have d:two 6=64:=by decide
 unfold fld;refine⟨?_, ?_, ?_⟩
 ·rw[if_pos (show May 5 1 by unfold May;decide),t5,t1]
 ·rw[if_pos (show May 6 2 by unfold May;decide),d,t2];omega
 ·rw[if_pos (show May 0 5 by unfold May;decide),t0,t5];omega
theorem Cx {ah w:World} {R hi Br N O d G:Nat} {s:RdS} {t q:Int} {f ag Y:Int} {ai:Bool} (h:PrQ ah w R hi Br N O d G s t (dC f ag ai Y 0 false 0) q) (ad:0<=q/\q<=255) (aw:d<G):
  Calls prog 253 #[γ G,γ d] w λe w'=>e= .returned (ι (q/64))/\PrQ ah w' R hi Br N O d G s t (dC f ag ai Y 0 (bit q 32) 0) q:=by
 obtain⟨h,J⟩:=h;obtain⟨aa,ab,aq⟩:=Hg ad;have ae:U64 q:=by unfold U64;omega
 have ac:(q/32%2==1)=bit q 32:=by unfold bit;rw[Bool.eq_iff_iff];simp
 have aj:=κ aa;have ak:=κ ab;have ap:=κ ac;have ar:=β0 J;have I:=κ h;have an:=κ J;obtain⟨ay,az⟩:=ad;have aA:q/64<=3:=by omega
 have aB:0<=q/64:=by omega
 clear h J aa ab aq ac;generalize q/64=q6 at *
 go_enter func253,ntmps253
 go_wp2_with first | (go_at_call 254;((with_reducible refine(QK q 5 1 ae (by unfold May;decide) _).mono ?_);rintro e w1 ⟨rfl,H,rfl⟩;rw[aj.o];have am:=κ ((I.o.on (qa.drewN _ H)).put8 7 (μ (bit q 32)));have U:=κ (qo (qr an.o H) ⟨d,7,none⟩ (μ (bit q 32)) (by show G≠d;omega));have au:=qb (I.o.on (qa.drewN w H)).b8 7 (v:= μ false) rfl;have aC:=qd (I.o.on (qa.drewN w H)).b8 7;have ax:=ap.o;have av:=β0 U.o)) | (go_at_call 254;((with_reducible refine(QK q 6 2 ae (by unfold May;decide) _).mono ?_);rintro e w2 ⟨rfl,af,rfl⟩;rw[ak.o];have ao:=κ (am.o.on (qa.drewN _ af));have al:=κ (qr U.o af)))
 go_ret;exact⟨rfl,ao.o,al.o⟩
theorem FW {U w:World} {R hi Br H I J d:Nat} {s:RdS} {t q:Int} {cs:Array Value} (h:PrQ U w R hi Br H I J d s t cs q) (ag:0<=q/\q<=255):
  Calls prog 255 #[γ d] w λe w'=>e= .returned (ι (q%32))/\PrQ U w' R hi Br H I J d s t cs q:=by
 obtain⟨h,G⟩:=h;obtain⟨ae,af,N⟩:=Hg ag;have ah:U64 q:=by unfold U64;omega
 have Y:=κ N;have ai:=β0 G;have ab:=κ h;have ad:=κ G;have aj:q%32<=31:=by omega
 have ak:0<=q%32:=by omega
 clear h G ae af N;generalize q%32=q5 at *
 go_enter func255,ntmps255
 go_wp2_with (go_at_call 254;((with_reducible refine(QK q 0 5 ah (by unfold May;decide) _).mono ?_);rintro e w1 ⟨rfl,O,rfl⟩;rw[Y.o];have ac:=κ (ab.o.on (qa.drewN _ O));have aa:=κ (qr ad.o O)))
 go_ret;exact⟨rfl,ac.o,aa.o⟩
theorem Lo {O w:World} {R hi Br d G H:Nat} {s:RdS} {t f:Int} (h:PrS O w R hi Br d G H s t (dC f 0 false 0 0 false 0)) (Y:0<=t/\t<=255):
  Calls prog 250 #[υ 128,.func (.func 251) #[] #[γ d,γ H],γ G] w λe w'=>e= .returned (ι (gk t s).1.1)/\PrS O w' R hi Br d G H (gk t s).2 t (dC f 0 (gk t s).1.2 0 0 false 0):=by
 have aa:=β0 h.b7;have I:=κ h;have N:=(Zw Y).1;clear h;cases hb:bit t 128 with
 | false=>
  rw[hb,if_neg η] at N;have e:gk t s=((-1,false),s):=by unfold gk;rw[hb,if_neg η]
  rw[e];clear e hb
  go_enter func250,ntmps250
  go_wp2;go_ret;exact⟨rfl,I.o⟩
 | true=>
  rw[hb,if_pos rfl] at N;have e:gk t s=((CQ s,CO s),CS s):=by unfold gk CQ CS CO;rw[hb,if_pos rfl];by_cases hn:nB s<128<;>simp[hn]
  have E:=κ e;clear e hb
  go_enter func250,ntmps250
  go_wp2_with (go_at_call 251;((with_reducible refine(FK I.o).mono ?_);rintro e w1 ⟨rfl,J⟩;have U:=κ J;clear J))
  go_ret;rw[E.o];exact⟨rfl,U.o⟩
theorem Lp {O w:World} {R hi Br d G H:Nat} {s:RdS} {t:Int} {cs:Array Value} (h:PrS O w R hi Br d G H s t cs) (Y:0<=t/\t<=255):
  Calls prog 250 #[υ 64,.func (.func 252) #[] #[γ d],γ G] w λe w'=>e= .returned (ι (Jl t s).1)/\PrS O w' R hi Br d G H (Jl t s).2 t cs:=by
 have aa:=β0 h.b7;have I:=κ h;have N:=(Zw Y).2.1;clear h;cases hb:bit t 64 with
 | false=>
  rw[hb,if_neg η] at N;have e:Jl t s=(-1,s):=by unfold Jl;rw[hb,if_neg η]
  rw[e];clear e hb
  go_enter func250,ntmps250
  go_wp2;go_ret;exact⟨rfl,I.o⟩
 | true=>
  rw[hb,if_pos rfl] at N;have e:Jl t s=(nB s,tkS s 1):=by unfold Jl;rw[hb,if_pos rfl]
  have E:=κ e;clear e hb
  go_enter func250,ntmps250
  go_wp2_with (go_at_call 252;((with_reducible refine(FZ I.o).mono ?_);rintro e w1 ⟨rfl,J⟩;have U:=κ J;clear J))
  go_ret;rw[E.o];exact⟨rfl,U.o⟩
theorem Gg {ab w:World} {R hi Br I H G d:Nat} {s:RdS} {t q:Int} {f aa N:Int} {ac:Bool} (h:PrQ ab w R hi Br I H G d s t (dC f aa ac N 0 false 0) q) (ag:0<=t/\t<=255) (Y:0<=q/\q<=255) (af:G<d):
  Calls prog 250 #[υ 32,.func (.func 253) #[] #[γ d,γ G],γ H] w λe w'=>e= .returned (ι (if bit t 32 then q/64 else -1))/\PrQ ab w' R hi Br I H G d s t (dC f aa ac N 0 (bit t 32&&bit q 32) 0) q:=by
 have ah:=β0 h.1.b7;have J:=κ h;have U:=(Zw ag).2.2.1;have ae:=κ Y;clear h Y;cases hb:bit t 32 with
 | false=>
  rw[hb,if_neg η] at U;rw[if_neg η,Bool.false_and];clear hb
  go_enter func250,ntmps250
  go_wp2;go_ret;exact⟨rfl,J.o⟩
 | true=>
  rw[hb,if_pos rfl] at U;rw[if_pos rfl,Bool.true_and];clear hb
  go_enter func250,ntmps250
  go_wp2_with (go_at_call 253;((with_reducible refine(Cx J.o ae.o af).mono ?_);rintro e w1 ⟨rfl,O⟩;have ad:=κ O;clear O))
  go_ret;exact⟨rfl,ad.o⟩
theorem Ao {Y w:World} {R hi Br H G I d:Nat} {s:RdS} {t q:Int} {cs:Array Value} (h:PrQ Y w R hi Br H G I d s t cs q) (ac:0<=t/\t<=255) (U:0<=q/\q<=255):
  Calls prog 250 #[υ 16,.func (.func 255) #[] #[γ d],γ G] w λe w'=>e= .returned (ι (if bit t 16 then q%32 else -1))/\PrQ Y w' R hi Br H G I d s t cs q:=by
 have ad:=β0 h.1.b7;have J:=κ h;have O:=(Zw ac).2.2.2.1;have ab:=κ U;clear h U;cases hb:bit t 16 with
 | false=>
  rw[hb,if_neg η] at O;rw[if_neg η];clear hb
  go_enter func250,ntmps250
  go_wp2;go_ret;exact⟨rfl,J.o⟩
 | true=>
  rw[hb,if_pos rfl] at O;rw[if_pos rfl];clear hb
  go_enter func250,ntmps250
  go_wp2_with (go_at_call 255;((with_reducible refine(FW J.o ab.o).mono ?_);rintro e w1 ⟨rfl,N⟩;have aa:=κ N;clear N))
  go_ret;exact⟨rfl,aa.o⟩
end
section
open Go.RowKit
theorem PrS.begin {w w2:World} {b:List Int} {R:Nat} {Z:Array Value} (J:Z= #[μ false,false,υ 0,ι 0,false,ι 0,ι 0,false,ι 0]) (H:(w.alloc (.cells Z 366)).heap.size<=R)
  (r:qu w2 R b 0 (λg=>(w.alloc (.cells Z 366)).heap.size<=g/\g<w2.heap.size)) (m:qa (w.alloc (.cells Z 366)) w2):
  qu w2 R b 0 (λg=>g<w2.heap.size)/\qa w w2/\w2.heap[w.heap.size]? =some (.cells Z 366 (0,0))/\w.heap.size<R/\R<w2.heap.size:=by
 have G:R<w2.heap.size:=by obtain⟨v,d,_⟩:=r.blk;exact qn d
 have I:(w.alloc (.cells Z 366)).heap.size=w.heap.size+1:=by simp
 exact⟨r.mono λg h=>h.2,(qa.alloc _ _).trans m,qc m (qj w _),τ,G⟩
structure PrP (w0 w:World) (R hi Br B5 B7:Nat) (s:RdS) (t:Int):Prop where
 rd:qu w R s.1 s.2 (λg=>g<hi)
 more:qa w0 w
 br:w.heap[Br]? =some (.cells #[.bool false,.bool false,.int .u8 0,.int .i64 0,.bool false,.int .i64 0,.int .i64 0,.bool false,.int .i64 0] 366 (0,0))
 b5:w.heap[B5]? =some (.cells #[.pointer (some ⟨R,0,none⟩)] 156 (0,0))
 b7:w.heap[B7]? =some (.cells #[.int .u8 t] 5 (0,0))
 n0:w0.heap.size<=Br
 nR:Br<R
 n1:R<hi
 n5:hi<=B5
 n7:B5<B7
theorem PrP.step {H w w':World} {R hi Br d G:Nat} {s s':RdS} {t:Int} (h:PrP H w R hi Br d G s t) (r:qu w' R s'.1 s'.2 (λg=>g<hi)) (a:qg (λb=>b=R) w w'):PrP H w' R hi Br d G s' t:=by
 have:=h.n0;have:=h.nR;have:=h.n1;have:=h.n5;have:=h.n7;exact⟨r,qg.to_more h.more a (λk I=>by omega),a.blk h.br τ,a.blk h.b5 τ,a.blk h.b7 τ,h.n0,h.nR,h.n1,h.n5,h.n7⟩
theorem PrP.put7 {H w:World} {R hi Br G d:Nat} {s:RdS} {t:Int} (h:PrP H w R hi Br G d s t) (t':Int):PrP H (w.setCell ⟨d,0,none⟩ (υ t')) R hi Br G d s t':=by
 have:=h.n0;have:=h.nR;have:=h.n1;have:=h.n5;have:=h.n7;have a:qg (λb=>b=d) w (w.setCell ⟨d,0,none⟩ (υ t')):=(qg.refl (λb=>b=d) w).set (p:=⟨d,0,none⟩) rfl _;exact⟨h.rd.off a τ (λg I e=>by omega),h.more.st (p:=⟨d,0,none⟩) (by show _<=d;omega) _,a.blk h.br τ,a.blk h.b5 τ,qB (qp h.b7 0 _) rfl,h.n0,h.nR,h.n1,h.n5,h.n7⟩
theorem PrP.box {H w:World} {R hi Br d G:Nat} {s:RdS} {t:Int} (h:PrP H w R hi Br d G s t) (cs:Array Value):PrS H (w.alloc (.cells cs 366)) R hi Br d G w.heap.size s t cs:=
 ⟨h.rd.more (qa.alloc _ _),h.more.al _,qs h.br _,qs h.b5 _,qs h.b7 _,qj w _,h.n0,h.nR,h.n1,h.n5,h.n7,qn h.b7⟩
theorem PrP.make {w w2 d:World} {b:List Int} {R Br:Nat} (O:qu w2 R b 0 (λg=>g<w2.heap.size)) (m:qa w w2) (H:w2.heap[Br]? =some (.cells #[μ false,false,υ 0,ι 0,false,ι 0,ι 0,false,ι 0] 366 (0,0))) (I:w.heap.size<=Br) (J:Br<R) (n2:R<w2.heap.size)
  {s':RdS} (r:qu d R s'.1 s'.2 (λg=>g<w2.heap.size)) (a:qg (λb=>b=R) (w2.alloc (.cells #[γ R] 156)) d):
  PrP w (d.alloc (.cells #[υ 0] 5)) R w2.heap.size Br w2.heap.size d.heap.size s' 0:=by
 have G:d.heap[w2.heap.size]? =_:=a.blk (qj w2 _) τ;refine⟨r.more (qa.alloc _ _),(qg.to_more (m.al _) a (λk N=> ?_)).al _,qs (a.blk (qs H _) τ) _,qs G _,qj _ _,I,J,n2,Nat.le_refl _,qn G⟩;omega
theorem PrQ.mk {J w:World} {R hi Br G H I d:Nat} {s:RdS} {t q:Int} {cs:Array Value} (h:PrS J w R hi Br G H I s t cs) (k:w.heap[d]? =some (.cells #[ψ q] 231 (0,0))):PrQ J w R hi Br G H I d s t cs q:=⟨h,k⟩
theorem qa.st9 {G w:World} (m:qa G w) (B:Nat) (d:G.heap.size<=B) (v0 v1 v2 v3 v4 v5 v6 v7 v8:Value):
  qa G (((((((((w.setCell ⟨B,0,none⟩ v0).setCell ⟨B,1,none⟩ v1).setCell ⟨B,2,none⟩ v2).setCell ⟨B,3,none⟩ v3).setCell ⟨B,4,none⟩ v4).setCell ⟨B,5,none⟩ v5).setCell ⟨B,6,none⟩ v6).setCell ⟨B,7,none⟩ v7).setCell ⟨B,8,none⟩ v8):=
 ((((((((m.st (p:=⟨B,0,none⟩) d v0).st (p:=⟨B,1,none⟩) d v1).st (p:=⟨B,2,none⟩) d v2).st (p:=⟨B,3,none⟩) d v3).st (p:=⟨B,4,none⟩) d v4).st (p:=⟨B,5,none⟩) d v5).st (p:=⟨B,6,none⟩) d v6).st (p:=⟨B,7,none⟩) d v7).st (p:=⟨B,8,none⟩) d v8
theorem PrS.put10 {J w:World} {R hi Br H I G d:Nat} {s:RdS} {t:Int} {cs:Array Value} (h:PrS J w R hi Br H I G s t cs) (N:G<d) {v:Value}:PrS J (w.setCell ⟨d,0,none⟩ v) R hi Br H I G s t cs:=by
 have:=h.n0;have:=h.nR;have:=h.n1;have:=h.n5;have:=h.n7;have:=h.n8;have a:qg (λb=>b=d) w (w.setCell ⟨d,0,none⟩ v):=(qg.refl (λb=>b=d) w).set (p:=⟨d,0,none⟩) rfl _;exact⟨h.rd.off a τ (λg O e=>by omega),h.more.st (p:=⟨d,0,none⟩) (by show _<=d;omega) _,a.blk h.br τ,a.blk h.b5 τ,a.blk h.b7 τ,a.blk h.b8 τ,h.n0,h.nR,h.n1,h.n5,h.n7,h.n8⟩
theorem kz (v:Value) (b:List Int) (w:World) (bE:SlI .u8 w v b) (aQ:Byt b) (bU:b.length<=1000000):
  Calls prog 195 #[v] w λe w'=>e= .returned (.tuple #[θ #[μ (qW b).1.lo,μ (qW b).1.st,υ (qW b).1.pt,ι (qW b).1.pic,μ (qW b).1.wd,ι (qW b).1.bs,ι (qW b).1.tr,μ (qW b).1.sy,ι (qW b).1.ky],ι (qW b).2.1,ι (qW b).2.2])/\qa w w':=by
 have bh:=κ (bE.keep (qa.alloc w (.cells #[μ false,false,υ 0,ι 0,false,ι 0,ι 0,false,ι 0] 366)));have ar:0<=nB (b,0)/\nB (b,0)<=255:=Zt (s:=(b,0)) aQ;obtain⟨cu,co,rfl,aR⟩:=bE;clear aR;have bT:=(JW ar).1;have cp:=(JW ar).2.2.1;have cq:=(JW ar).2.2.2;have cr:=(Zw ar).2.2.2.2.1;have ai:num (tkB b 1)=nB (b,0):=rfl;have am:=κ ai;clear ai;generalize bt:nB (b,0)=f at *;have ao:=κ bt;clear bt
 go_enter func195,ntmps195
 go_upto_if 18 with (first | (go_at_call 51;(go_call km _ b _ bh.o aQ bU as e w2 ⟨R,rfl,bo,bw,bu⟩;obtain⟨bB,bA,bi,n1,n2⟩:=PrS.begin rfl bo bw bu;have ay:=κ bB;have bJ:=κ bA;have aX:=κ bi;clear bw bu bB bA bi bo;have aS:=β0 (qj w2 (.cells #[γ R] 156)))) | (go_at_call 52;(go_call jT (ay.o.more (qa.alloc _ _)) as e ca ⟨rfl,bC,a3⟩;rw[am.o];have ac:=κ (PrP.make ay.o bJ.o aX.o (Nat.le_refl _) n1 n2 (s':=tkS (b,0) 1) bC a3);clear bC a3)))
 generalize w2.heap.size=hi at *;generalize ca.heap.size=B7 at *;have bX:=β0 ac.o.b5;have aV:=β0 ac.o.b7;have bj:0<=(zd (b,0)).2.1/\(zd (b,0)).2.1<=255:=by
  unfold zd;split
  ·exact Zt (s:=tkS (b,0) 1) (aQ.drop _)
  ·exact⟨η,η⟩
 have ab:=κ bj;clear bj
 go_cut [] from 18 (λaT=>PrP w aT R hi w.heap.size hi B7 (zd (b,0)).2.2 (zd (b,0)).2.1)
 case first=>
  cases hbt:bit f 128 with
  | false=>
   have e:zd (b,0)=(f,0,tkS (b,0) 1):=by unfold zd;rw[ao.o,hbt,if_neg η]
   have I:=κ e;clear e;go_wp2;go_meet;rw[I.o];exact ac.o
  | true=>
   have e:zd (b,0)=(f,nB (tkS (b,0) 1),tkS (tkS (b,0) 1) 1):=by unfold zd;rw[ao.o,hbt,if_pos rfl]
   have I:=κ e;clear e
   go_wp2_with (go_at_call 52;(go_call jT ac.o.rd as e w4 ⟨rfl,au,a4⟩;have bH:=κ ((ac.o.step (s':=tkS (tkS (b,0) 1) 1) au a4).put7 (nB (tkS (b,0) 1)));have bF:=qd (ac.o.step (s':=tkS (tkS (b,0) 1) 1) au a4).b7 0;have cy:=qb (ac.o.step (s':=tkS (tkS (b,0) 1) 1) au a4).b7 0 (v:= υ 0) rfl;clear au a4))
   go_meet;rw[I.o];exact bH.o
 case rest=>
  have bq:(zd (b,0)).1=f:=by rw[<-ao.o];unfold zd;split<;>rfl
  have aa:qW b=DE b.length (Zs (zd (b,0)).1 (zd (b,0)).2.1 (zd (b,0)).2.2):=rfl;rw[bq] at aa;have aY:=κ hcut;have bd:=κ aa;clear hcut aa bq ac ay aX aS bX aV am ao bh;generalize (zd (b,0)).2.1=t at *;generalize (zd (b,0)).2.2=s at *;obtain⟨t0,t1⟩:=ab.o;have ae:=(Zw ab.o).2.2.2.2.2;have ba:=κ ae;clear ae bT;have bf:Hid (PrS w (wc.alloc (.cells #[μ (bit f 32),(bit f 16),υ (f%8),ι 0,false,ι 0,ι 0,false,ι 0] 366)) R hi w.heap.size hi B7 wc.heap.size s t (dC f 0 false 0 0 false 0)):=κ (aY.o.box _);generalize bm:gk t s=P at *;generalize bn:Jl t P.2=Q at *;generalize bk:QP t Q.2=Bo at *;have bb:=κ bm;have bc:=κ bn;have an:=κ bk;clear bm bn bk;obtain⟨⟨pic,wd⟩,s1⟩:=P;obtain⟨bs,s2⟩:=Q;obtain⟨q,H⟩:=Bo
  have bI:Hid (Byt s2.1->0<=q/\q<=255):=κ (λbV=>by
   have e:=an.o;unfold QP at e;split at e
   ·cases e;exact Zt bV
   ·cases e;exact⟨ζ,ζ⟩)
  go_upto_if 41 with (first | (go_at_call 250;((with_reducible refine(Lo bf.o ab.o).mono ?_);rintro e w5 ⟨rfl,aj⟩;rw[bb.o] at aj ⊢;have bg:Hid (PrS w (w5.setCell ⟨wc.heap.size,3,none⟩ (ι pic)) R hi w.heap.size hi B7 wc.heap.size s1 t (dC f pic wd 0 0 false 0)):=κ (aj.put8 3 (ι pic));have cb:=β3 aj.b8;have z3:=qd aj.b8 3;clear aj)) | (go_at_call 250;((with_reducible refine(Lp bg.o ab.o).mono ?_);rintro e w6 ⟨rfl,ak⟩;rw[bc.o] at ak ⊢;have ap:Hid (PrS w (w6.setCell ⟨wc.heap.size,5,none⟩ (ι bs)) R hi w.heap.size hi B7 wc.heap.size s2 t (dC f pic wd bs 0 false 0)):=κ (ak.put8 5 (ι bs));have cc:=β5 ak.b8;have z5:=qd ak.b8 5;have G:=κ (ap.o.on (qa.alloc _ (.cells #[ψ 0] 231)));have aV:=β0 G.o.b7;clear ak cb z3)))
  have ad:=κ (qj (w6.setCell ⟨wc.heap.size,5,none⟩ (ι bs)) (.cells #[ψ 0] 231));have bv:=bI.o ap.o.rd.byt;have af:=κ bv;have aq:wc.heap.size<(w6.setCell ⟨wc.heap.size,5,none⟩ (ι bs)).heap.size:=qn ap.o.b8;clear bv;generalize (w6.setCell ⟨wc.heap.size,5,none⟩ (ι bs)).alloc (.cells #[ψ 0] 231)=W7 at *;have bz:(w6.setCell ⟨wc.heap.size,5,none⟩ (ι bs)).heap.size=w6.heap.size:=by simp
  rw[bz] at ad aq;generalize w6.heap.size=N10 at *;generalize wc.heap.size=B8 at *;clear bf bg ap cc z5 bz aY;have aS:=β0 G.o.b5
  go_cut [] from 41 (λaT=>PrQ w aT R hi w.heap.size hi B7 B8 N10 H t (dC f pic wd bs 0 false 0) q)
  case first=>
   cases hbt:(bit t 32||bit t 16) with
   | false=>
    have e:=an.o;unfold QP at e;rw[hbt,if_neg η] at e;have ae:=ba.o;rw[hbt] at ae;have I:Hid (0=q/\s2=H):=κ (by cases e;exact⟨rfl,rfl⟩);clear e hbt;go_wp2;go_meet;rw[<-I.o.1,<-I.o.2];exact⟨G.o,ad.o⟩
   | true=>
    have e:=an.o;unfold QP at e;rw[hbt,if_pos rfl] at e;have ae:=ba.o;rw[hbt] at ae;have I:Hid (nB s2=q/\tkS s2 1=H):=κ (by cases e;exact⟨rfl,rfl⟩);have ai:num (tkB s2.1 1)=q:=I.o.1;have am:=κ ai;obtain⟨cv,cw⟩:=af.o;clear e hbt ai
    go_wp2_with (go_at_call 52;(go_call jT G.o.rd as e w8 ⟨rfl,bD,Y⟩;rw[am.o];have ag:=κ (G.o.step (s':=tkS s2 1) bD Y);have bG:=κ (Y.blk ad.o (by have:=G.o.n1;have:=G.o.n5;have:=G.o.n7;have:=G.o.n8;omega));have cz:=qd (Y.blk ad.o (by have:=G.o.n1;have:=G.o.n5;have:=G.o.n7;have:=G.o.n8;omega)) 0;have cx:=β0 (Y.blk ad.o (by have:=G.o.n1;have:=G.o.n5;have:=G.o.n7;have:=G.o.n8;omega));clear bD Y))
    go_meet;rw[<-I.o.2];exact⟨ag.o.put10 aq,qB (qp bG.o 0 _) rfl⟩
  case rest=>
   have ag:=κ hcut;clear hcut aS aV ad G;have bx:Zs f t s=(mkD f t (pic,wd) bs q,H):=by unfold Zs;rw[bb.o];simp only[bc.o,an.o]
   have be:=κ bx;clear bx;obtain⟨J,bp⟩: ∃J,J=(if bit t 32 then q/64 else -1):=⟨_,rfl⟩;obtain⟨U,bl⟩: ∃U,U=(if bit t 16 then q%32 else -1):=⟨_,rfl⟩;have az:=κ bp;have ax:=κ bl;clear bp bl;obtain⟨aw,al⟩:=ν ((if ¬H.2=0 then H.2 else if 0<H.1.length then 4 else 0));have aZ:=κ al;have aR:=ag.o.1.rd.small;by_cases he:H.2=3
   ·have bW:aw=3:=by rw[<-al,he];rfl
    have aa:qW b=(ds0,0,3):=by rw[bd.o,be.o];unfold DE;rw[if_pos he]
    subst bW;have I:=κ aa;clear he al aa aR
    go_wp2_with first | (go_at_call 250;((with_reducible refine(Gg ag.o ab.o af.o aq).mono ?_);rintro e w9 ⟨rfl,O⟩;rw[<-az.o];obtain⟨O,ah⟩:=O;have aA:Hid (PrS w (w9.setCell ⟨B8,6,none⟩ (ι J)) R hi w.heap.size hi B7 B8 H t (dC f pic wd bs J (bit t 32&&bit q 32) 0)):=κ (O.put8 6 (ι J));have av:=κ (qo ah ⟨B8,6,none⟩ (ι J) (by show N10≠B8;omega));have aU:=β6 O.b8;have aW:=qd O.b8 6;clear O ah)) | (go_at_call 250;((with_reducible refine(Ao (PrQ.mk aA.o av.o) ab.o af.o).mono ?_);rintro e w10 ⟨rfl,N⟩;rw[<-ax.o];obtain⟨N,aG⟩:=N;have d:Hid (PrS w (w10.setCell ⟨B8,8,none⟩ (ι U)) R hi w.heap.size hi B7 B8 H t (dC f pic wd bs J (bit t 32&&bit q 32) U)):=κ (N.put8 8 (ι U));have cd:=β8 N.b8;have bF:=qd N.b8 8;have ce:=β0 d.o.b5;clear N aG aU aW)) | (go_at_call 57;(go_call zn d.o.rd as e bY ⟨rfl,rfl⟩)) | (go_at_call 59;(go_call yT d.o.rd as e bZ ⟨rfl,rfl⟩;rw[aZ.o];have aH:=β0 d.o.br;have cf:=qd d.o.br 0;have aI:=β1 d.o.br;have cg:=qd d.o.br 1;have aJ:=β2 d.o.br;have ch:=qd d.o.br 2;have aK:=β3 d.o.br;have ci:=qd d.o.br 3;have aL:=β4 d.o.br;have cj:=qd d.o.br 4;have aM:=β5 d.o.br;have ck:=qd d.o.br 5;have aN:=β6 d.o.br;have cl:=qd d.o.br 6;have aO:=β7 d.o.br;have cm:=qd d.o.br 7;have aP:=β8 d.o.br;have cn:=qd d.o.br 8;have bK:=β0 d.o.b8;have bL:=β1 d.o.b8;have bM:=β2 d.o.b8;have bN:=β3 d.o.b8;have bO:=β4 d.o.b8;have bP:=β5 d.o.b8;have bQ:=β6 d.o.b8;have bR:=β7 d.o.b8;have bS:=β8 d.o.b8))
    (refine bodyPost_ret (v:= .tuple #[θ #[μ false,false,υ 0,ι 0,false,ι 0,ι 0,false,ι 0],ι 0,ι 3]) ?rr1 rfl ?_;(case rr1=>(simp[results,results195,go_sem,aH,aI,aJ,aK,aL,aM,aN,aO,aP])))
    have aB:=κ (λa0 aC aD a3 a4 a5 aE aF Y=>qa.st9 d.o.more w.heap.size (Nat.le_refl _) a0 aC aD a3 a4 a5 aE aF Y);refine⟨by rw[I.o];rfl, ?_⟩;exact aB.o _ _ _ _ _ _ _ _ _
   ·have ct:(aw==3)=false:=by
     have: ¬aw=3:=by
      rw[<-al];split
      ·exact he
      ·split<;>decide
     simpa using this
    have aa:qW b=(mkD f t (pic,wd) bs q,(b.length:Int)-H.1.length,0):=by rw[bd.o,be.o];unfold DE;rw[if_neg he]
    have I:=κ aa;clear he al aa
    go_wp2_with first | (go_at_call 250;((with_reducible refine(Gg ag.o ab.o af.o aq).mono ?_);rintro e w9 ⟨rfl,O⟩;rw[<-az.o];obtain⟨O,ah⟩:=O;have aA:Hid (PrS w (w9.setCell ⟨B8,6,none⟩ (ι J)) R hi w.heap.size hi B7 B8 H t (dC f pic wd bs J (bit t 32&&bit q 32) 0)):=κ (O.put8 6 (ι J));have av:=κ (qo ah ⟨B8,6,none⟩ (ι J) (by show N10≠B8;omega));have aU:=β6 O.b8;have aW:=qd O.b8 6;clear O ah)) | (go_at_call 250;((with_reducible refine(Ao (PrQ.mk aA.o av.o) ab.o af.o).mono ?_);rintro e w10 ⟨rfl,N⟩;rw[<-ax.o];obtain⟨N,aG⟩:=N;have d:Hid (PrS w (w10.setCell ⟨B8,8,none⟩ (ι U)) R hi w.heap.size hi B7 B8 H t (dC f pic wd bs J (bit t 32&&bit q 32) U)):=κ (N.put8 8 (ι U));have cd:=β8 N.b8;have bF:=qd N.b8 8;have ce:=β0 d.o.b5;clear N aG aU aW)) | (go_at_call 57;(go_call zn d.o.rd as e bY ⟨rfl,rfl⟩)) | (go_at_call 59;(go_call yT d.o.rd as e bZ ⟨rfl,rfl⟩;rw[aZ.o];have aH:=β0 d.o.br;have cf:=qd d.o.br 0;have aI:=β1 d.o.br;have cg:=qd d.o.br 1;have aJ:=β2 d.o.br;have ch:=qd d.o.br 2;have aK:=β3 d.o.br;have ci:=qd d.o.br 3;have aL:=β4 d.o.br;have cj:=qd d.o.br 4;have aM:=β5 d.o.br;have ck:=qd d.o.br 5;have aN:=β6 d.o.br;have cl:=qd d.o.br 6;have aO:=β7 d.o.br;have cm:=qd d.o.br 7;have aP:=β8 d.o.br;have cn:=qd d.o.br 8;have bK:=β0 d.o.b8;have bL:=β1 d.o.b8;have bM:=β2 d.o.b8;have bN:=β3 d.o.b8;have bO:=β4 d.o.b8;have bP:=β5 d.o.b8;have bQ:=β6 d.o.b8;have bR:=β7 d.o.b8;have bS:=β8 d.o.b8))
    (refine bodyPost_ret (v:= .tuple #[θ #[μ (bit f 32),(bit f 16),υ (f%8),ι pic,wd,ι bs,ι J,(bit t 32&&bit q 32),ι U],ι ((b.length:Int)-H.1.length),ι 0]) ?rr2 rfl ?_;(case rr2=>(simp[results,results195,go_sem,aH,aI,aJ,aK,aL,aM,aN,aO,aP])))
    have aB:=κ (λa0 aC aD a3 a4 a5 aE aF Y=>qa.st9 d.o.more w.heap.size (Nat.le_refl _) a0 aC aD a3 a4 a5 aE aF Y);refine⟨by rw[I.o,az.o,ax.o];rfl, ?_⟩;exact aB.o _ _ _ _ _ _ _ _ _
end
section
open Go.RowKit
theorem PH (s:RdS):(zd s).2.2.1.length<=s.1.length:=by
 have d: ∀s:RdS,(tkS s 1).1.length<=s.1.length:=λs=>by unfold tkS tkL;rw[List.length_drop];omega
 unfold zd;split
 ·exact Nat.le_trans (d _) (d _)
 ·exact d _
theorem Es (b:List Int):0<=(qW b).2.1/\(qW b).2.1<=b.length:=by
 have d:=PH (b,0);have G:=GI (zd (b,0)).1 (zd (b,0)).2.1 (zd (b,0)).2.2;unfold qW DE;split
 ·exact⟨Int.le_refl _,η⟩
 ·simp only at d ⊢;omega
theorem Jg (v:Value) (b:List Int) (w:World) (ar:SlI .u8 w v b) (N:Byt b) (ac:b.length<=1000000):
  Calls prog 134 #[v] w λe w'=>e= .returned (μ (zJ b))/\qa w w':=by
 have J:=κ ar;have aq:=Es b;have G:zJ b=(decide ((qW b).2.2=0)&&(qW b).1.st&&decide ((qW b).1.pt=0)&&decide ((qW b).2.1<b.length)&&decide (b.getD (qW b).2.1.toNat 0%2=0)):=rfl;obtain⟨aF,aA,rfl,_,O,_⟩:=ar;obtain⟨au,am⟩:=ν ((qW b).1.st);obtain⟨ao,ak⟩:=ν ((qW b).1.pt);obtain⟨af,ag⟩:=ν ((qW b).2.1);obtain⟨an,aj⟩:=ν ((qW b).2.2);rw[ag] at aq;rw[am,ak,ag,aj] at G;have ab:=κ am;have aa:=κ ak;have Y:=κ ag;have U:=κ aj;obtain⟨ad,ae⟩:=aq;clear am ak ag aj;by_cases h1:an=0
 ·cases au with
  | false=>
   have H:Hid (zJ b=false):=κ (by rw[G];simp);subst h1;clear G O ad ae
   go_enter func134,ntmps134
   go_wp2_with (go_at_call 195;(go_call kz _ b _ J.o N ac as e w2 ⟨rfl,d⟩;have I:=κ d;have ah:=κ ((J.o.keep d).keep (qa.alloc _ (.cells #[μ (qW b).1.lo,μ (qW b).1.st,υ (qW b).1.pt,ι (qW b).1.pic,μ (qW b).1.wd,ι (qW b).1.bs,ι (qW b).1.tr,μ (qW b).1.sy,ι (qW b).1.ky] 366)));clear d;rw[ab.o,aa.o,Y.o,U.o]))
   go_ret;exact⟨by rw[H.o];try rfl,I.o.al _⟩
  | true=>
   by_cases h2:ao=0
   ·by_cases h3:af<b.length
    ·obtain⟨k,rfl⟩: ∃k:Nat,af=k:=⟨af.toNat,τ⟩;have ay:k<b.length:=by omega
     obtain⟨ai,az,rfl,ap,aw⟩:=O k ay;have av:=N k;have H:Hid (zJ b=decide (b.getD k 0%2=0)):=κ (by rw[G,decide_eq_true h1,decide_eq_true h2,decide_eq_true h3];simp);have ax: ¬(b.length:Int)<=(k:Int):=by omega
     subst h1 h2;clear G O ad ae;generalize b.getD k 0=x at *;obtain⟨aG,aH⟩:=av
     go_enter func134,ntmps134
     go_wp2_with (go_at_call 195;(go_call kz _ b _ J.o N ac as e w2 ⟨rfl,d⟩;have I:=κ d;rw[ab.o,aa.o,Y.o,U.o];have aE:w2.cell? ⟨ai,az+k,none⟩=some (υ x):=(by rw[d.cells ai _ ap];exact aw);have aD:ai<w2.heap.size:=Nat.lt_of_lt_of_le ap d.size;clear d))
     go_ret;exact⟨by rw[H.o];first | rfl | (congr 2;rw[Bool.eq_iff_iff];simp),I.o.al _⟩
    ·have H:Hid (zJ b=false):=κ (by rw[G,decide_eq_false h3];simp);have ax:(b.length:Int)<=af:=by omega
     subst h1 h2;clear G O ad ae
     go_enter func134,ntmps134
     go_wp2_with (go_at_call 195;(go_call kz _ b _ J.o N ac as e w2 ⟨rfl,d⟩;have I:=κ d;have ah:=κ ((J.o.keep d).keep (qa.alloc _ (.cells #[μ (qW b).1.lo,μ (qW b).1.st,υ (qW b).1.pt,ι (qW b).1.pic,μ (qW b).1.wd,ι (qW b).1.bs,ι (qW b).1.tr,μ (qW b).1.sy,ι (qW b).1.ky] 366)));clear d;rw[ab.o,aa.o,Y.o,U.o]))
     go_ret;exact⟨by rw[H.o];try rfl,I.o.al _⟩
   ·have H:Hid (zJ b=false):=κ (by rw[G,decide_eq_false h2];simp);have aC:(ao != 0)=true:=by simpa using h2
    subst h1;clear G O ad ae h2
    go_enter func134,ntmps134
    go_wp2_with (go_at_call 195;(go_call kz _ b _ J.o N ac as e w2 ⟨rfl,d⟩;have I:=κ d;have ah:=κ ((J.o.keep d).keep (qa.alloc _ (.cells #[μ (qW b).1.lo,μ (qW b).1.st,υ (qW b).1.pt,ι (qW b).1.pic,μ (qW b).1.wd,ι (qW b).1.bs,ι (qW b).1.tr,μ (qW b).1.sy,ι (qW b).1.ky] 366)));clear d;rw[ab.o,aa.o,Y.o,U.o]))
    go_ret;exact⟨by rw[H.o];try rfl,I.o.al _⟩
 ·have H:Hid (zJ b=false):=κ (by rw[G,decide_eq_false h1];simp);have aB:(an != 0)=true:=by simpa using h1
  clear G O ad ae h1
  go_enter func134,ntmps134
  go_wp2_with (go_at_call 195;(go_call kz _ b _ J.o N ac as e w2 ⟨rfl,d⟩;have I:=κ d;have ah:=κ ((J.o.keep d).keep (qa.alloc _ (.cells #[μ (qW b).1.lo,μ (qW b).1.st,υ (qW b).1.pt,ι (qW b).1.pic,μ (qW b).1.wd,ι (qW b).1.bs,ι (qW b).1.tr,μ (qW b).1.sy,ι (qW b).1.ky] 366)));clear d;rw[ab.o,aa.o,Y.o,U.o]))
  go_ret;exact⟨by rw[H.o];try rfl,I.o.al _⟩
end
section
open Go.RowKit
theorem IY: ∀m:Fin 256,bits .and .u8 (m.val:Int) 127=(m.val:Int)%128/\bits .and .u8 (m.val:Int) 15=(m.val:Int)%16:=of_decide_eq_true ξ
theorem Gd {x:Int} (h:0<=x/\x<=255):bits .and .u8 x 127=x%128/\bits .and .u8 x 15=x%16:=by
 obtain⟨m,rfl⟩:=Int.eq_ofNat_of_zero_le h.1;exact IY ⟨m,τ⟩
structure HdS (w0 w:World) (R hi Br Bd:Nat) (s:RdS) (q:Pk) (vs ve vp:Value):Prop where
 rd:qu w R s.1 s.2 (λg=>g<hi)
 more:qa w0 w
 br:w.heap[Br]? =some (.cells #[.bool false,.int .u8 0,.int .u16 0,.int .u32 0,.int .u32 0,.slice none 0 0,.bool false,.int .u16 0,.slice none 0 0,.slice none 0 0] 63 (0,0))
 bd:w.heap[Bd]? =some (.cells #[.bool q.mr,.int .u8 q.ty,.int .u16 q.sq,.int .u32 q.st,.int .u32 q.sc,vs,.bool q.has,.int .u16 q.pr,ve,vp] 63 (0,0))
 rs:w.ownsRow (Bd+1) 38 1 vs q.ss.length (q.ss.map (Value.int .u32))
 re:w.ownsRow (Bd+1) 5 1 ve q.ex.length (q.ex.map (Value.int .u8))
 rp:w.ownsRow (Bd+1) 5 1 vp q.pl.length (q.pl.map (Value.int .u8))
 n0:w0.heap.size<=Br
 nR:Br<R
 n1:R<hi
 n5:hi<=Bd
theorem HdS.step {I w w':World} {R hi Br Bd:Nat} {s s':RdS} {q:Pk} {H G vp:Value} (h:HdS I w R hi Br Bd s q H G vp) (r:qu w' R s'.1 s'.2 (λg=>g<hi)) (a:qg (λb=>b=R) w w'):HdS I w' R hi Br Bd s' q H G vp:=by
 have:=h.n0;have:=h.nR;have:=h.n1;have:=h.n5;exact⟨r,qg.to_more h.more a (λk d=>by omega),a.blk h.br τ,a.blk h.bd τ,xC h.rs a (λk d=>by omega),xC h.re a (λk d=>by omega),xC h.rp a (λk d=>by omega),h.n0,h.nR,h.n1,h.n5⟩
theorem HdS.on {H w w':World} {R hi Br Bd:Nat} {s:RdS} {q:Pk} {G d vp:Value} (h:HdS H w R hi Br Bd s q G d vp) (m:qa w w'):HdS H w' R hi Br Bd s q G d vp:=
 ⟨h.rd.more m,h.more.trans m,qc m h.br,qc m h.bd,jE h.rs m,jE h.re m,jE h.rp m,h.n0,h.nR,h.n1,h.n5⟩
theorem HdS.fill {N w:World} {R hi Br Bd:Nat} {s:RdS} {q q':Pk} {J I vp G d vp':Value} (h:HdS N w R hi Br Bd s q J I vp) (i:Nat) (v:Value)
  (O:((Γq q J I vp):Array Value).setIfInBounds i v= (Γq q' G d vp'))
  (aa:w.ownsRow (Bd+1) 38 1 G q'.ss.length (q'.ss.map (Value.int .u32))) (U:w.ownsRow (Bd+1) 5 1 d q'.ex.length (q'.ex.map (Value.int .u8))) (Y:w.ownsRow (Bd+1) 5 1 vp' q'.pl.length (q'.pl.map (Value.int .u8))):
  HdS N (w.setCell ⟨Bd,i,none⟩ v) R hi Br Bd s q' G d vp':=by
 have:=h.n0;have:=h.nR;have:=h.n1;have:=h.n5;have a:qg (λb=>b=Bd) w (w.setCell ⟨Bd,i,none⟩ v):=(qg.refl (λb=>b=Bd) w).set (p:=⟨Bd,i,none⟩) rfl _;exact⟨h.rd.off a τ (λg ab e=>by omega),h.more.st (p:=⟨Bd,i,none⟩) (by show _<=Bd;omega) _,a.blk h.br τ,qB (qp h.bd i v) O,xC aa a (λk H=>by omega),xC U a (λk H=>by omega),xC Y a (λk H=>by omega),h.n0,h.nR,h.n1,h.n5⟩
theorem HdS.scal {H w:World} {R hi Br Bd:Nat} {s:RdS} {q:Pk} {G d vp:Value} (h:HdS H w R hi Br Bd s q G d vp) (i:Nat) (v:Value) (q':Pk)
  (O:((Γq q G d vp):Array Value).setIfInBounds i v= (Γq q' G d vp)) (I:q'.ss=q.ss) (J:q'.ex=q.ex) (N:q'.pl=q.pl):HdS H (w.setCell ⟨Bd,i,none⟩ v) R hi Br Bd s q' G d vp:=
 h.fill i v O (by rw[I];exact h.rs) (by rw[J];exact h.re) (by rw[N];exact h.rp)
theorem HdS.begin {w w2:World} {b:List Int} {R:Nat} {Z:Array Value} (H:Z= Γc) (I:(w.alloc (.cells Z 63)).heap.size<=R)
  (r:qu w2 R b 0 (λg=>(w.alloc (.cells Z 63)).heap.size<=g/\g<w2.heap.size)) (m:qa (w.alloc (.cells Z 63)) w2):
  HdS w (w2.alloc (.cells Γc 63)) R w2.heap.size w.heap.size w2.heap.size (b,0) pk0 (δ none 0 0) (δ none 0 0) (δ none 0 0):=by
 subst H;have G:R<w2.heap.size:=by obtain⟨v,d,_⟩:=r.blk;exact qn d
 have J:(w.alloc (.cells Γc 63)).heap.size=w.heap.size+1:=by simp
 exact⟨(r.mono λg h=>h.2).more (qa.alloc _ _),((qa.alloc _ _).trans m).al _,qs (qc m (qj w _)) _,qj w2 _,World.ownsRow_nil _ _ _ _,World.ownsRow_nil _ _ _ _,World.ownsRow_nil _ _ _ _,Nat.le_refl _,τ,G,Nat.le_refl _⟩
theorem Pf {w:World} {base e n:Nat} {G:Option Addr} {m cap:Nat} {l:List Int} {k:IntKind} (h:w.ownsRow base e 1 (δ G m cap) l.length (l.map (Value.int k))) (O:n<=l.length) (ac:0<l.length):w.ownsRow base e 1 (δ G n cap) (l.take n).length ((l.take n).map (Value.int k)):=by
 obtain⟨ad,I⟩:=h;have d:(l.take n).length=n:=by rw[List.length_take];omega
 rcases I with ⟨_,ae⟩ | ⟨g,ab,cur,H,J,N,af,aa,U,Y⟩
 ·omega
 ·cases H;refine⟨η,Or.inr ⟨g,_,cur,by rw[d],J,N,by rw[d];omega,aa,U, ?_⟩⟩;rw[d,Nat.mul_one,List.map_take,<-Y,List.take_take,Nat.mul_one,Nat.min_eq_left O]
theorem XK (N:Option Addr) (cap:Nat) (b:List Int) (base:Nat) (w:World) (h:w.ownsRow base 5 1 (δ N b.length cap) b.length (b.map (Value.int .u8))) (ad:Byt b) (al:b.length<=1000000):
  Calls prog 58 #[δ N b.length cap] w λe w'=>(∃v,e= .returned (.tuple #[v,μ (xL b).2])/\w.ownsRow base 5 1 v (xL b).1.length ((xL b).1.map (Value.int .u8)))/\w=w':=by
 have O:=κ h;obtain⟨ap,ag,ab,an,d,G,_⟩:=SlI.of_owns h τ;cases ab;have J:(∃v,(Ending.returned (.tuple #[δ none 0 0,false]))= .returned (.tuple #[v,false])/\w.ownsRow base 5 1 v ([]:List Int).length (([]:List Int).map (Value.int .u8))):=⟨_,rfl,World.ownsRow_nil _ _ _ _⟩;have I:=κ J;clear J;by_cases h0:b.length=0
 ·have e:xL b=([],false):=by unfold xL;rw[if_pos (List.length_eq_zero_iff.1 h0)]
  rw[e];have ac:(b.length:Int)=0:=by omega
  clear d h e G
  go_enter func58,ntmps58
  go_wp2
  go_ret2
  exact⟨I.o,rfl⟩
 ·obtain⟨aa,af,rfl,ah,ai⟩:=d (b.length-1) τ;have ae:=ad (b.length-1);have ac:((b.length:Int)==0)=false:=by rw[beq_eq_false_iff_ne];omega
  have H: ¬b=[]:=λe=>h0 (by rw[e];rfl)
  have e:xL b=if b.getD (b.length-1) 0=0∨(b.length:Int)<b.getD (b.length-1) 0 then ([],false) else (b.take (b.length-(b.getD (b.length-1) 0).toNat),true):=by unfold xL;rw[if_neg H]
  have hi:((b.length:Int)-1).toNat=b.length-1:=by omega
  have am:(b.length:Int)-1<(b.length:Int):=by omega
  have aj:0<=(b.length:Int)-1:=by omega
  have ak:1<=(b.length:Int):=by omega
  generalize b.getD (b.length-1) 0=x at *;obtain⟨aq,ar⟩:=ae;by_cases hx0:x=0
  ·rw[if_pos (Or.inl hx0)] at e;rw[e];subst hx0;clear d h e G h0 H
   go_enter func58,ntmps58
   go_wp2
   go_ret2
   exact⟨I.o,rfl⟩
  ·have ao:(x==0)=false:=by simpa using hx0
   by_cases hxl:(b.length:Int)<x
   ·rw[if_pos (Or.inr hxl)] at e;rw[e];clear d h e G h0 H hx0
    go_enter func58,ntmps58
    go_wp2
    go_ret2
    exact⟨I.o,rfl⟩
   ·rw[if_neg τ] at e;rw[e];have s1:(b.length:Int)-x<=(cap:Int):=by omega
    have s2:((b.length:Int)-x).toNat=b.length-x.toNat:=by omega
    have U:=κ (Pf O.o (n:=b.length-x.toNat) τ τ);have Y:=κ s2;clear d h e h0 H hx0 G
    go_enter func58,ntmps58
    go_wp2
    go_ret2
    exact⟨⟨δ (some ⟨aa,af,none⟩) (b.length-x.toNat) cap,by first | rfl | rw[Y.o],by have:=U.o;rw[List.length_take,List.map_take,Nat.min_eq_left (Nat.sub_le _ _)] at this;exact this⟩,rfl⟩
end
end Go.Proofs.YtlmllmonabafjaaGreatDoor
