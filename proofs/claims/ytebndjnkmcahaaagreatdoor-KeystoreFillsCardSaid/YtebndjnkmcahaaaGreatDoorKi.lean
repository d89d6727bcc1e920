/- joined of several texts; own work; no statement of the seat is proved but in the last -/
import Derived.Test.YtebndjnkmcahaaaGreatDoorKf
section
namespace Go.Proofs.YtebndjnkmcahaaaGreatDoor
set_option linter.unusedSimpArgs false
set_option linter.unusedVariables false
open Go Go.Abs Go.RowKit
theorem sO (n k:Nat) (h:k≤64):bc .i64 (n:Int) (k:Int)=((n/2^k:Nat):Int):=by
 show Int.fdiv (n:Int) (2^(min (k:Int).toNat 64))=_
 rw [Int.toNat_natCast,Nat.min_eq_left h,Int.fdiv_eq_ediv_of_nonneg _ (by have:(0:Int)<2^k:=Int.pow_pos (by decide);omega)]
 simp
theorem ri (n:Nat):[AV.p (.v (.int .u8 (IntKind.u8.wrap (bc .i64 (n:Int) 24)))),AV.p (.v (.int .u8 (IntKind.u8.wrap (bc .i64 (n:Int) 16)))),AV.p (.v (.int .u8 (IntKind.u8.wrap (bc .i64 (n:Int) 8)))),AV.p (.v (.int .u8 (IntKind.u8.wrap (n:Int))))]=cb (beB n):=by
 have h24:=sO n 24 (by decide)
 have h16:=sO n 16 (by decide)
 have h8:=sO n 8 (by decide)
 simp only [show ((24:Nat):Int)=24 from rfl,show ((16:Nat):Int)=16 from rfl,show ((8:Nat):Int)=8 from rfl] at h24 h16 h8
 rw [h24,h16,h8,lo8,lo8,lo8,lo8]
 rfl
set_option maxRecDepth 100000 in
set_option maxHeartbeats 4000000 in
theorem Ez (d:ca) (now B:Int) (h:wN d B):FPure Tryz.prog 31 [cP d,.i now,.i B] (mF (ns d now B)):=by
 refine en Tryz.func31 Tryz.ntmps31 Tryz.results31 [0,1,2,3,6,7,8,9,10,11,12,13,14,15,16,18,25,38,49,57,82,108] ?_;intro c hP h0 hE kK
 obtain⟨R,hR⟩:∃R,ns d now B=R:=⟨_,rfl⟩;rw [hR] at hE kK;(try rw [hR])
 unfold ns at hR
 by_cases hon:d.on=true
 ·rw [if_pos hon] at hR
  subst hR
  simp only [go_sem,hP,hon]
 rw [if_neg hon] at hR
 have hon':d.on=false:=by simpa using hon
 by_cases h1:now<0
 ·rw [if_pos (.inl h1)] at hR
  subst hR
  simp only [go_sem,hP,hon',h1]
 by_cases h2:now>1099511627776
 ·rw [if_pos (.inr h2)] at hR
  subst hR
  simp only [go_sem,hP,hon',h1,h2]
 rw [if_neg (by omega)] at hR
 simp only [go_sem,hP,hon',h1,h2]
 refine aa kK (by exact FF d.v.j.ps d.v.j.bs _ B rfl h.len h.i64) ?_
 rw [show (⟨d.v.j.ps,d.v.j.bs⟩:Fl)=flOf d.v.j from rfl]
 have hol:=nh (flOf d.v.j) B h.i64 h.len
 have hof:=qv (flOf d.v.j) B h.i64 h.len
 have hop:=h.op
 have hpu:=h.pu
 have hlen:(flOf d.v.j).bs.length<1000000000:=h.len
 generalize ropenM (flOf d.v.j) B=O at *
 simp only [go_sem,hP]
 by_cases he:O.err=0
 case neg =>
  rw [if_pos he] at hR ⊢
  subst hR
  refine aa kK (by exact j2 d O.v O.err) ?_
  simp only [go_sem,hP]
 rw [if_neg (by omega)]
 rw [if_neg (by omega)] at hR
 obtain⟨hvl,h24⟩:=hop he
 refine aa kK (by exact xY O.v hvl h24) ?_
 have hlt:=fh (vgetM 2 O.v.prs) _ (show (vgetM 2 O.v.prs).length≤8 by omega)
 have hpw:2^(8*(vgetM 2 O.v.prs).length)≤2^32:=Nat.pow_le_pow_right (by decide) (by omega)
 have hnm:(gk (vgetM 2 O.v.prs)).toNat<4294967296:=by unfold gk;omega
 generalize hk:(gk (vgetM 2 O.v.prs)).toNat=k at *
 by_cases hmx:k=4294967295
 ·rw [if_pos hmx] at hR
  subst hR
  simp only [go_sem,hP,hk,show ((k:Int)=4294967295) from by omega]
 rw [if_neg hmx] at hR
 have hw1:IntKind.i64.wrap ((k:Int)+1)=((k+1:Nat):Int):=by rw [ab (by omega) (by omega)];omega
 simp only [go_sem,hP,hk,show ¬((k:Int)=4294967295) from by omega,hw1]
 refine aa kK (by exact qk O.v _ 1 hvl.1 (fun x hx=>by have:=hvl.2 x hx;omega)) ?_
 have hbl:=pf d.fac O.v.prs (k+1)
 have hpl:=mf O.v (bootL d.fac O.v.prs (k+1)) O.left hof (by omega) hbl.2 hbl.1
 have hpf:=rW O.v (bootL d.fac O.v.prs (k+1)) O.left hof (by omega) hbl.2 hbl.1
 have hpu:=hpu (k+1) he
 by_cases hb:(vgetM 1 O.v.prs).length=0
 ·have hL:bootL d.fac O.v.prs (k+1)=[(1,cr (fU d.fac.se fv (((k+1)*1048576:Nat):Int)) 8),(2,beB (k+1)),(16,cf ⟨0,d.fac.af,d.fac.ato,d.fac.af⟩)]:=by unfold bootL;rw [if_pos hb]
  have hsh:gV .i64 ((k+1:Nat):Int) 20=(((k+1)*1048576:Nat):Int):=by
   show IntKind.i64.wrap (((k+1:Nat):Int)*2^20)=_
   rw [ab (by omega) (by omega)];omega
  simp only [go_sem,hP,hb,hsh]
  refine aa kK (by exact zA d _) ?_
  generalize hm:fU d.fac.se fv (((k+1)*1048576:Nat):Int)=m at *
  simp only [go_sem,hP]
  simp only [ri]
  refine iI hE (ks:=[0,1,2,3,6,7,8,9,10,11,12,13,14,15,16,18,25,38,49,57,82,108]) (n:=2000) 5 ?_ ?_
  ·simp only [go_sem]
   exact Nat.le_refl _
  simp only [go_sem,hP]
  refine aa kK (by exact sS ⟨0,d.fac.af,d.fac.ato,d.fac.af⟩) ?_
  generalize cf ⟨0,d.fac.af,d.fac.ato,d.fac.af⟩=le at *
  simp only [go_sem,hP]
  first|refine dO hE (ks:=[0,1,2,3,6,7,8,9,10,11,12,13,14,15,16,18,25,38,49,57,82,108]) (n:=2000) ?_ ?_ rfl (by rw [hP];exact ql O.v _ (bootL d.fac O.v.prs (k+1)) O.left rfl (by omega) (by omega) (by have:=hbl.1;omega) (fun x hx=>by have:=hbl.2 x hx;omega) hof) (by simp only [go_sem,ax,an,and_self]) ?_|refine dP hE (ks:=[0,1,2,3,6,7,8,9,10,11,12,13,14,15,16,18,25,38,49,57,82,108]) (n:=2000) ?_ ?_ rfl (by rw [hP];exact ql O.v _ (bootL d.fac O.v.prs (k+1)) O.left rfl (by omega) (by omega) (by have:=hbl.1;omega) (fun x hx=>by have:=hbl.2 x hx;omega) hof) (by simp only [go_sem,ax,an,and_self]) ?_
  ·rw [hL]
   simp only [go_sem,ef,dE,byP,au]
   exact⟨rfl,rfl⟩
  ·simp only [go_sem]
  rw [← hL] at *
  generalize rputM O.v (bootL d.fac O.v.prs (k+1)) O.left=P at *
  simp only [go_sem,hP]
  by_cases hpe:P.err=0
  case neg =>
   rw [if_pos hpe] at hR ⊢
   subst hR
   refine aa kK (by exact j2 d P.v P.err) ?_
   simp only [go_sem,hP]
  rw [if_neg (by omega)]
  rw [if_neg (by omega)] at hR
  obtain⟨hpv,hp2,hp1⟩:=hpu hpe
  generalize ht:(if now>d.now then now else d.now)=t at *
  dsimp only at hR
  refine aa kK (by exact (ya ⟨d.fac,P.v,true,t,t,0,0,nO,it0⟩ hpv hp2 hp1).nil ⟨kU _ _ _ _ _ (cq _) (cq _) (cq _) ⟨rfl,rfl⟩,trivial⟩) ?_
  generalize jx ⟨d.fac,P.v,true,t,t,0,0,nO,it0⟩=w at *
  simp only [go_sem,hP]
  refine aa kK (by exact uK w) ?_
  subst hR
  simp only [go_sem,hP]
  exact cD _
 ·have hL:bootL d.fac O.v.prs (k+1)=[(2,beB (k+1))]:=by unfold bootL;rw [if_neg hb]
  simp only [go_sem,hP,show ¬(((vgetM 1 O.v.prs).length:Int)=0) from by omega]
  simp only [ri]
  refine iI hE (ks:=[0,1,2,3,6,7,8,9,10,11,12,13,14,15,16,18,25,38,49,57,82,108]) (n:=2000) 3 ?_ ?_
  ·simp only [go_sem]
   exact Nat.le_refl _
  simp only [go_sem,hP]
  first|refine dO hE (ks:=[0,1,2,3,6,7,8,9,10,11,12,13,14,15,16,18,25,38,49,57,82,108]) (n:=2000) ?_ ?_ rfl (by rw [hP];exact ql O.v _ (bootL d.fac O.v.prs (k+1)) O.left rfl (by omega) (by omega) (by have:=hbl.1;omega) (fun x hx=>by have:=hbl.2 x hx;omega) hof) (by simp only [go_sem,ax,an,and_self]) ?_|refine dP hE (ks:=[0,1,2,3,6,7,8,9,10,11,12,13,14,15,16,18,25,38,49,57,82,108]) (n:=2000) ?_ ?_ rfl (by rw [hP];exact ql O.v _ (bootL d.fac O.v.prs (k+1)) O.left rfl (by omega) (by omega) (by have:=hbl.1;omega) (fun x hx=>by have:=hbl.2 x hx;omega) hof) (by simp only [go_sem,ax,an,and_self]) ?_
  ·rw [hL]
   simp only [go_sem]
   rfl
  ·simp only [go_sem]
  rw [← hL] at *
  generalize rputM O.v (bootL d.fac O.v.prs (k+1)) O.left=P at *
  simp only [go_sem,hP]
  by_cases hpe:P.err=0
  case neg =>
   rw [if_pos hpe] at hR ⊢
   subst hR
   refine aa kK (by exact j2 d P.v P.err) ?_
   simp only [go_sem,hP]
  rw [if_neg (by omega)]
  rw [if_neg (by omega)] at hR
  obtain⟨hpv,hp2,hp1⟩:=hpu hpe
  generalize ht:(if now>d.now then now else d.now)=t at *
  dsimp only at hR
  refine aa kK (by exact (ya ⟨d.fac,P.v,true,t,t,0,0,nO,it0⟩ hpv hp2 hp1).nil ⟨kU _ _ _ _ _ (cq _) (cq _) (cq _) ⟨rfl,rfl⟩,trivial⟩) ?_
  generalize jx ⟨d.fac,P.v,true,t,t,0,0,nO,it0⟩=w at *
  simp only [go_sem,hP]
  refine aa kK (by exact uK w) ?_
  subst hR
  simp only [go_sem,hP]
  exact cD _
end Go.Proofs.YtebndjnkmcahaaaGreatDoor
end
section
section
namespace Go.Proofs.YtebndjnkmcahaaaGreatDoor
set_option linter.unusedSimpArgs false
set_option linter.unusedVariables false
open Go Go.Abs Go.RowKit
def b7 (s:ag) (i:Nat):LR:=ic (vgetM (16+(i:Int)) s)
def aX (s:ag) (n:Nat):List (Nat×Ls):=(List.range n).filterMap fun i=>if (b7 s i).e=0 then some (i,(b7 s i).x) else none
abbrev bl (s:ag):List (Nat×Ls):=aX s 16
theorem eb (s:ag) (n:Nat):aX s (n+1)=if (b7 s n).e=0 then aX s n++[(n,(b7 s n).x)] else aX s n:=by
 unfold aX
 rw [List.range_succ,List.filterMap_append]
 split
 ·rename_i h;simp [h]
 ·rename_i h;simp [h]
theorem gL (s:ag) (n:Nat):(aX s n).length≤n:=by
 have:=List.length_filterMap_le (fun i=>if (b7 s i).e=0 then some (i,(b7 s i).x) else none) (List.range n)
 unfold aX
 simpa using this
def nlP (p:Nat×Ls):List PV:=[.v (.int .i64 p.1),wd p.2.tag,.v (.int .i64 p.2.fr),.v (.int .i64 p.2.tto),.v (.int .i64 p.2.nx)]
def ja (l:List (Nat×Ls)):List PV:=l.flatMap nlP
def nlA (l:List (Nat×Ls)):List AV:=(ja l).map .p
theorem BQ (l:List (Nat×Ls)) (p:Nat×Ls):nlA l++[.i p.1,.w p.2.tag,.i p.2.fr,.i p.2.tto,.i p.2.nx]=nlA (l++[p]):=by simp [nlA,ja,nlP]
theorem BR (l:List (Nat×Ls)):(ja l).length=l.length*5:=by
 induction l with
 | nil=>rfl
 | cons p l ih=>simp only [ja,List.flatMap_cons,List.length_append,List.length_cons] at ih ⊢;rw [ih];simp [nlP];omega
theorem yb (l:List (Nat×Ls)):(nlA l).length=l.length*5:=by unfold nlA;rw [List.length_map,BR]
theorem uM (h:ba) (S:List Nat) (σ:Nat→Nat) (l:List (Nat×Ls)):ai h S σ (nlA l) (nlA l):=aW h S σ _
set_option maxHeartbeats 4000000 in
theorem wO (d:ca) (hv:VLen d.v.prs):FPure Tryz.prog 85 [cP d,.i 16,.i 16,.p (.v (.func (.func 86) #[] #[]))] (.p (.data 5 (bl d.v.prs).length (ja (bl d.v.prs)))):=by
 refine en Tryz.func85 Tryz.ntmps85 Tryz.results85 [0,1,2,3,4,8,9,10,11,12,13,14,15,29] ?_;intro c hP h0 hE kK
 simp only [go_sem,hP]
 refine bE 88 ?_
 refine ay hE h0 [0,1,2,3,4,8,9,10,11,12,13,14,15,29] 16 (fun i=>⟨38,[(1,.i 16),(3,.p (.v (.func (.func 86) #[] #[]))),(4,.ptr 0 0),(9,.sl 1 0 (aX d.v.prs i).length 5),(13,.i 16),(14,.i i)],[(1,some ⟨88,nlA (aX d.v.prs i)⟩),(0,some ⟨43,dvC (iW d)⟩)],2⟩) [] (fun i=>i) ?_ ?_
 ·refine⟨rfl,?_,?_,rfl,rfl,trivial,fun i h=>h⟩
  ·simp only [go_sem]
   rfl
  ·simp only [go_sem]
   exact (show ai _ _ _ [] [] from by simp [ai])
 ·intro i hi
  rcases Nat.lt_or_ge i 16 with hin|hin
  ·have hw:IntKind.i64.wrap ((i:Int)+1)=((i+1:Nat):Int):=by rw [ab (by omega) (by omega)];omega
   have hk:IntKind.i64.wrap (16+(i:Int))=16+(i:Int):=ab (by omega) (by omega)
   have hs:=eb d.v.prs i
   have hll:=gL d.v.prs i
   simp only [go_sem,hP,hk,show ((i:Int)<16) from by omega]
   refine aa kK (by exact md d.v _ (16+(i:Int)) hv.1 (fun x hx=>by have:=hv.2 x hx;omega)) ?_
   have hg:=hv.get (16+(i:Int))
   generalize hb:vgetM (16+(i:Int)) d.v.prs=b at *
   simp only [go_sem,hP]
   refine aa kK (by exact HF b _ rfl hg) ?_
   have hlr:b7 d.v.prs i=ic b:=by unfold b7;rw [hb]
   rw [hlr] at hs
   generalize ic b=L at *
   generalize hN:aX d.v.prs i=N at *
   generalize aX d.v.prs (i+1)=N' at *
   by_cases he:L.e=0
   ·rw [if_pos he] at hs
    subst hs
    simp only [go_sem,hP,he,hw]
    refine⟨⟨yb N,by omega,by omega⟩,hin,aZ [0,4] rfl ?_ ?_ rfl rfl (Nat.le_refl _)⟩
    ·simp only [go_sem]
    ·rw [BQ N (i,L.x)]
     simp only [go_sem]
     exact uM _ _ _ _
   ·rw [if_neg he] at hs
    subst hs
    simp only [go_sem,hP,he,hw]
    refine⟨hin,aZ [0,1] rfl ?_ ?_ rfl rfl (Nat.le_refl _)⟩
    ·simp only [go_sem]
    ·simp only [go_sem]
     exact uM _ _ _ _
  ·obtain rfl:i=16:=by omega
   have hll:=yb (aX d.v.prs 16)
   simp only [go_sem,hP,show ¬((16:Int)<16) from by omega]
   rw [List.take_of_length_le (by omega)]
   first
    | exact⟨⟨by omega,bI _⟩,rfl,bY _⟩
    | exact⟨⟨by omega,bI _⟩,bY _⟩
theorem ph (d:ca) (hv:VLen d.v.prs):FPure Tryz.prog 32 [cP d] (.p (.data 5 (bl d.v.prs).length (ja (bl d.v.prs)))):=by
 refine en Tryz.func32 Tryz.ntmps32 Tryz.results32 [0,1,2] ?_;intro c hP h0 hE kK
 simp only [go_sem,hP]
 refine aa kK (by exact wO d hv) ?_
 simp only [go_sem,hP]
def zB (l:List Ls):List PV:=l.flatMap lsP
theorem BS (l:List Ls):(zB l).length=l.length*4:=by
 induction l with
 | nil=>rfl
 | cons p l ih=>simp only [zB,List.flatMap_cons,List.length_append,List.length_cons] at ih ⊢;rw [ih];simp [lsP];omega
def lsA (l:List Ls):List AV:=(zB l).map .p
theorem BT (l:List Ls) (p:Ls):lsA l++[.w p.tag,.i p.fr,.i p.tto,.i p.nx]=lsA (l++[p]):=by simp [lsA,zB,lsP]
theorem yc (l:List Ls):(lsA l).length=l.length*4:=by unfold lsA;rw [List.length_map,BS]
theorem BU (h:ba) (S:List Nat) (σ:Nat→Nat) (l:List Ls):ai h S σ (lsA l) (lsA l):=aW h S σ _
theorem sP (l:List (Nat×Ls)) (i:Nat) (h:i<l.length):(ja l).drop (i*5)=nlP (l.getD i (0,ls0))++ja (l.drop (i+1)):=by
 induction l generalizing i with
 | nil=>simp at h
 | cons p l ih =>
  cases i with
  | zero=>simp [ja]
  | succ i =>
   have:=ih i (by simpa using h)
   have e:(ja (p::l)).drop ((i+1)*5)=(ja l).drop (i*5):=by
    rw [show ja (p::l)=nlP p++ja l from by simp [ja],show (i+1)*5=(nlP p).length+i*5 from by simp [nlP];omega,List.drop_length_add_append]
   rw [e,this]
   simp
set_option maxHeartbeats 1000000 in
theorem zC (l:List (Nat×Ls)) (hb:l.length<1000):FPure Tryz.prog 69 [.p (.data 5 l.length (ja l))] (.p (.data 4 l.length (zB (l.map (·.2))))):=by
 refine en Tryz.func69 Tryz.ntmps69 Tryz.results69 [0,2,3,5,6,7,8,9] ?_;intro c hP h0 hE kK
 simp only [go_sem,hP]
 refine bE 86 ?_
 refine ay hE h0 [0,2,3,5,6,7,8,9] l.length (fun i=>⟨19,[(3,.sl 0 0 i 4),(6,.p (.data 5 l.length (ja l))),(7,.i l.length),(8,.i i)],[(0,some ⟨86,lsA ((l.take i).map (·.2))⟩)],1⟩) [] (fun i=>i) ?_ ?_
 ·refine⟨rfl,?_,?_,rfl,rfl,trivial,fun i h=>h⟩
  ·simp only [go_sem]
  ·simp only [go_sem,List.take_zero]
   exact (show ai _ _ _ [] [] from by simp [ai])
 ·intro i hi
  rcases Nat.lt_or_ge i l.length with hin|hin
  ·have hw:IntKind.i64.wrap ((i:Int)+1)=((i+1:Nat):Int):=by rw [ab (by omega) (by omega)];omega
   have hat:=sP l i hin
   have hta:l.take (i+1)=l.take i++[l.getD i (0,ls0)]:=by rw [List.take_add_one];simp [List.getD_eq_getElem?_getD,hin]
   generalize l.getD i (0,ls0)=p at *
   simp only [go_sem,hP,hw,hat,nlP,show ((i:Int)<(l.length:Int)) from by omega]
   refine⟨by omega,⟨by rw [yc];simp;omega,by omega,by omega⟩,hin,aZ [3] rfl ?_ ?_ rfl rfl (Nat.le_refl _)⟩
   ·simp only [go_sem]
   ·rw [BT,hta]
    simp only [go_sem,List.map_append]
    exact BU _ _ _ _
  ·obtain rfl:i=l.length:=by omega
   have hll:=yc ((l.take l.length).map (·.2))
   have hmm:(List.map (fun x=>x.2) (l.take l.length)).length=l.length:=by simp
   rw [List.take_length] at hll
   simp only [go_sem,hP,show ¬((l.length:Int)<(l.length:Int)) from by omega]
   rw [List.take_length,List.take_of_length_le (by rw [hll];simp)]
   exact⟨⟨by rw [hll];simp,bI _⟩,bY _⟩
theorem zD (d:ca) (hv:VLen d.v.prs):FPure Tryz.prog 21 [cP d] (.p (.data 4 (bl d.v.prs).length (zB ((bl d.v.prs).map (·.2))))):=by
 refine en Tryz.func21 Tryz.ntmps21 Tryz.results21 [0,1,2] ?_;intro c hP h0 hE kK
 simp only [go_sem,hP]
 refine aa kK (by exact ph d hv) ?_
 have:(bl d.v.prs).length≤16:=gL d.v.prs 16
 simp only [go_sem,hP]
 refine aa kK (by exact zC (bl d.v.prs) (by omega)) ?_
 simp only [go_sem,hP]
end Go.Proofs.YtebndjnkmcahaaaGreatDoor
end
section
namespace Go.Proofs.YtebndjnkmcahaaaGreatDoor
set_option linter.unusedSimpArgs false
set_option linter.unusedVariables false
open Go Go.Abs Go.RowKit
abbrev rdT:Nat:=281
set_option maxRecDepth 100000 in
theorem EA:Con Tryz.prog 250 [.ptr 0 0] [(0,some ⟨rdT,[.p (.v (.slice none 0 0)),.i 0,.p (.data 1 0 []),.i 0]⟩)] (.tup [.i 0,.p (.v (.int .u64 0)),.i 1]) [(0,some ⟨rdT,[.p (.v (.slice none 0 0)),.i 0,.p (.data 1 0 []),.i 0]⟩)]:=by
 refine ec 1 Tryz.func250 Tryz.ntmps250 Tryz.results250 [0,2,3,4,5,6,7,8,10,20,38,39,45,56,61,79,94,95,96,97,117] ?_;intro c hP h0 hE kK
 simp only [go_sem,hP]
 refine⟨by kernel_rfl,?_⟩
 rw [if_pos (by decide)]
 refine aB [0] rfl ?_ ?_ rfl rfl (fun i hi=>?_) (fun i hi=>?_)
 ·simp only [go_sem]
 ·simp only [go_sem]
 ·simp at hi;subst hi;exact⟨rfl,by simp [keys]⟩
 ·simp [liveK] at hi;simp;omega
set_option maxRecDepth 100000 in
theorem EB:Con Tryz.prog 225 [.ptr 0 0] [(0,some ⟨rdT,[.p (.v (.slice none 0 0)),.i 0,.p (.data 1 0 []),.i 0]⟩)] (.tup [.agg [.i 0,.p (.v (.int .u64 0)),sv []],.i 1]) [(0,some ⟨rdT,[.p (.v (.slice none 0 0)),.i 0,.p (.data 1 0 []),.i 0]⟩)]:=by
 refine ec 1 Tryz.func225 Tryz.ntmps225 Tryz.results225 [0,2,3,4,5,6,7,8,9,17,26,32,33,37,39,43,57,93] ?_;intro c hP h0 hE kK
 simp only [go_sem,hP]
 refine ck hE (ks:=[0,2,3,4,5,6,7,8,9,17,26,32,33,37,39,43,57,93]) (n:=2000) [] (fun i=>i) 2 (by rw [hP];exact EA) ⟨by simp only [go_sem],by simp only [go_sem],rfl,trivial,Nat.le_of_ble_eq_true rfl,fun i hi => .inl (by simp [keys] at hi;simp [liveK,hi]),by simp [ax,an],by simp [bS,an,ax],rfl⟩ ?_
 simp only [go_sem,hP]
 refine aB [0] rfl ?_ ?_ rfl rfl (fun i hi=>?_) (fun i hi=>?_)
 ·simp only [go_sem]
 ·simp only [go_sem]
 ·simp at hi;subst hi;exact⟨rfl,by simp [keys]⟩
 ·simp [liveK] at hi;simp;omega
theorem EC:Con Tryz.prog 215 [.ptr 0 0] [(0,some ⟨rdT,[.p (.v (.slice none 0 0)),.i 0,.p (.data 1 0 []),.i 0]⟩)] (.b false) [(0,some ⟨rdT,[.p (.v (.slice none 0 0)),.i 0,.p (.data 1 0 []),.i 0]⟩)]:=by
 refine ec 1 Tryz.func215 Tryz.ntmps215 Tryz.results215 [0,2] ?_;intro c hP h0 hE kK
 simp only [go_sem,hP]
 rw [if_neg (by decide)]
 refine aB [0] rfl ?_ ?_ rfl rfl (fun i hi=>?_) (fun i hi=>?_)
 ·simp only [go_sem]
 ·simp only [go_sem]
 ·simp at hi;subst hi;exact⟨rfl,by simp [keys]⟩
 ·simp [liveK] at hi;simp;omega
set_option maxRecDepth 100000 in
theorem zE:FPure Tryz.prog 182 [.p (.data 1 0 [])] (.tup [.p (.v (.slice none 0 0)),.i 0,.i 1]):=by
 refine en Tryz.func182 Tryz.ntmps182 Tryz.results182 [0,2,3,4,5,6,7,12,18] ?_;intro c hP h0 hE kK
 simp only [go_sem,hP]
 refine bo hE h0 [0,2,3,4,5,6,7,12,18] (α:=Unit) (fun _=>⟨27,[(5,.ptr 0 0)],[(0,some ⟨rdT,[.p (.v (.slice none 0 0)),.i 0,.p (.data 1 0 []),.i 0]⟩)],1⟩) (fun _=>0) () [] (fun i=>i) ?_ ?_
 ·refine⟨rfl,?_,?_,rfl,rfl,trivial,fun i h=>h⟩
  ·simp only [go_sem]
  ·simp only [go_sem]
 ·rintro _
  simp only [go_sem,hP]
  refine ck hE (ks:=[0,2,3,4,5,6,7,12,18]) (n:=2000) [] (fun i=>i) 1 (by rw [hP];exact EC) ⟨by simp only [go_sem],by simp only [go_sem],rfl,trivial,Nat.le_of_ble_eq_true rfl,fun i hi => .inl (by simp [keys] at hi;simp [liveK,hi]),by simp [ax,an],by simp [bS,an,ax],rfl⟩ ?_
  simp only [go_sem,hP]
  refine ck hE (ks:=[0,2,3,4,5,6,7,12,18]) (n:=2000) [] (fun i=>i) 1 (by rw [hP];exact EB) ⟨by simp only [go_sem],by simp only [go_sem],rfl,trivial,Nat.le_of_ble_eq_true rfl,fun i hi => .inl (by simp [keys] at hi;simp [liveK,hi]),by simp [ax,an],by simp [bS,an,ax],rfl⟩ ?_
  simp only [go_sem,hP]
structure Cr where
 rp:List UInt8
 us:List UInt8
 nm:List UInt8
 sd:UInt64
 hg:Int
 rs:Bool
 pt:Int
 sh:Bool
 bk:Bool
deriving DecidableEq
def crP (x:Cr):List PV:=[.v (.string ⟨x.rp.toArray⟩),.v (.string ⟨x.us.toArray⟩),.v (.string ⟨x.nm.toArray⟩),wd x.sd,.v (.int .i64 x.hg),.v (.bool x.rs),.v (.int .i64 x.pt),.v (.bool x.sh),.v (.bool x.bk)]
def crC (x:Cr):List AV:=[sv x.rp,sv x.us,sv x.nm,.w x.sd,.i x.hg,.b x.rs,.i x.pt,.b x.sh,.b x.bk]
def cr0:Cr:=⟨[],[],[],0,0,false,0,false,false⟩
structure CR where
 x:Cr
 e:Int
def crAV (r:CR):AV := .tup [.agg (crC r.x),.i r.e]
attribute [go_sem] crC crAV
set_option maxRecDepth 100000 in
theorem yd:FPure Tryz.prog 130 [.p (.data 1 0 [])] (crAV ⟨cr0,2⟩):=by
 refine en Tryz.func130 Tryz.ntmps130 Tryz.results130 [0,2,3,4,6,7,8,16,63] ?_;intro c hP h0 hE kK
 simp only [go_sem,hP]
 refine aa kK (by exact zE) ?_
 simp only [go_sem,hP]
 exact⟨rfl,rfl,rfl,rfl,rfl,rfl,rfl,rfl,rfl⟩
end Go.Proofs.YtebndjnkmcahaaaGreatDoor
end
end
