/- own work: steps of the proof -/
import Derived.Test.YtgnmplopdkgccaaGreatDoorWords
import Derived.Test.YtgnmplopdkgccaaGreatDoorTi
import Derived.Handy
import Derived.Test.YtgnmplopdkgccaaGreatDoorRows
import Derived.ProofKit
import Derived.Carry
import Derived.ChangeSame
import Derived.Lib.SmallJoins
set_option linter.all false
set_option maxHeartbeats 4000000
open List renaming map_nil→a',append_nil→b',take_succ_cons→c',take_take→d',cons→e',flatten_append→g'
open Go.IntKind renaming i64→h',u64→i',u8→j'
open UInt64 renaming ofNat→k'
open UInt8 renaming ofNat→l',toNat_inj→m'
open Nat renaming mul_div_cancel_left→n'
namespace Go.Abs
open RowKit Proofs Proofs.Tryz
attribute [go_sem] JX.eq_1 gA.eq_1 gA.eq_2 zo.eq_1 zo.eq_2 DX.eq_1 zn.eq_1 zn.eq_2 zn.eq_3 JW.eq_1 wW D1.eq_1 D1.eq_2 D1.eq_3 zu.eq_1 zu.eq_2 zw.eq_1 gD.eq_1 gD.eq_2 mn aop
attribute [go_sem] ev evs evp lk hget JB lc N2 FA eqK unR R.pure R.pureS eff put prune xA hpr ll Fy setB iX gC N1 yX pvs fB oneC Jz dI cells xm Fz
attribute [go_sem] ka TK.agg ue yY bY uf ug pC uv xx xy sB Hm JP ui AT N3 FB FC Bh TK.isNone TK.isIface zl Oe ux uw.eq_1 uw.eq_2 Bk
attribute [go_sem] tC Bj.eq_1 oE mi uk JI g7 ul gG un ml dm keys bt Value.oneCell' qZ frz fg fC Od xv List.nil_append List.cons_append Nat.blt
attribute [go_sem] Nat.succ_eq_add_one Nat.add_zero Nat.zero_add Bool.not_true Bool.not_false Bool.false_eq_true List.drop_succ_cons List.drop_zero c' List.take_zero List.length_cons
attribute [go_sem] List.length_nil List.getElem?_cons_zero List.getElem?_cons_succ Option.map_some Option.map_none List.map_cons a' true_and and_true List.set_cons_zero List.set_cons_succ
attribute [go_sem] Int.toNat_natCast List.size_toArray Array.size_empty Nat.beq List.replicate_succ List.replicate_zero Nat.mul_one Int.cast_ofNat_Int and_self XW DK.eq_1 DK.eq_2 fzB fzS fzA fzL fzO ik aeN
attribute [go_sem] EndF jV J1 retV List.toList_toArray
attribute [go_sem] sC iU oH aS aj ep dN liveK cP pH sg
attribute [go_sem] dfl ag.eq_1 ag.eq_2 NX AN AO Hh AP
attribute [go_sem] List.length_drop List.length_map List.length_take List.length_append List.length_replicate wL AV.p.injEq PV.v.injEq Value.int.injEq AV.agg.injEq AV.tup.injEq e'.injEq
attribute [go_sem] true_or or_true false_and and_false or_false false_or
attribute [go_sem] AR QN lY lZ AQ uc PV.data.injEq
attribute [go_sem] NU NV
attribute [go_sem] renA eu renU iT
attribute [go_sem] beq_eq_false_iff_ne bne_eq_false_iff_eq Decidable.not_not
attribute [go_sem] QM cT
theorem IB(a:AV)(l:List AV):iY (a::l)↔isP a/\iY l:=by simp[iY]
theorem LV:iY []:=by simp[iY]
theorem IC(a:AV)(l:List AV):fD (a::l)=unP a::fD l:=rfl
theorem LW:fD []=[]:=rfl
attribute [go_sem] isQ jN unQ jO unI IB LV IC LW isP unP ZY QJ Fx fz1 fJ xl eU yS wH qR sq
attribute [go_sem] eE cY av eqN cy eqP
attribute [go_sem] QO NY QI Ju.eq_1 Ju.eq_2 QL Nat.sub_zero fzI dj gE.eq_1 gE.eq_2 Bool.not_eq_false'
attribute [go_sem] decide_eq_true_eq decide_eq_false_iff_not beq_iff_eq bne_iff_ne Bool.not_eq_true' ne_eq
attribute [go_sem] not_false_eq_true not_true_eq_false Nat.reduceAdd Nat.reduceMul reduceCtorEq Nat.reduceLeDiff Int.reduceToNat Int.reduceLT Int.reduceLE Int.reduceEq Int.reduceNe Int.reduceBEq Int.reduceBNe
attribute [go_sem] FK FL FM FN zk ur
attribute [go_sem] isK ld JA.eq_1 lg DE afs
theorem LX(n:Nat)(z:Value):mj n [z]=List.replicate n (.p (.v z)):=by simp[mj]
theorem LY(n:Nat)(a b:Value)(r:List Value):mj n (a::b::r)=(List.replicate n (pvs (a::b::r))).flatten:=by simp[mj]
attribute [go_sem] od LX LY
attribute [go_sem] afk afl afm afn afo afp afq afr
theorem ID:prog.follows .mixedOrders=true:=π
attribute [go_sem ↓] reduceIte
section
variable {f : FuncId} {fn : Func} {code : Code} {vs : List AV} {v : AV} {n : Nat} {rs : Array ResultVar}
theorem en(j:prog.funcs[f]?=some fn)(k:fn.ntmps=n)(g:fn.results=rs)(ks:List Nat)
 (h:∀c:Ctx,c.P=prog->(∀i,c.ρ0 i≠none->False)->XOk c (EndF prog rs.toList v)->XK prog ks c (EndF prog rs.toList v)->XW c (EndF prog rs.toList v) ks 2000 [.code code] ⟨n,qZ 0 vs,[],0⟩)
 (l:fn.body=some code:=by exact rfl) (a:(fn.name=="runtime.NumGoroutine")=false:=by kernel_rfl) (e:vs.length<=n:=by simp) (b:ak [] vs:=by simp[ak,ax]):FPure prog f vs v :=
 tZ ID j l a k g e b ks fun c J m Y=>h c J m Y ⟨J,Y⟩
theorem ec{u hp0:List (Nat×Option Blk)}(nx0:Nat)(l:prog.funcs[f]?=some fn)(m:fn.ntmps=n)(h:fn.results=rs)(ks:List Nat)
 (j:∀c:Ctx,c.P=prog->(∀i,c.ρ0 i≠none->i∈liveK hp0)->XOk c (xk prog rs.toList v (liveK hp0) u)->XK prog ks c (xk prog rs.toList v (liveK hp0) u)->XW c (xk prog rs.toList v (liveK hp0) u) ks 2000 [.code code] ⟨n,qZ 0 vs,hp0,nx0⟩)
 (o:fn.body=some code:=by exact rfl) (a:(fn.name=="runtime.NumGoroutine")=false:=by kernel_rfl) (e:vs.length<=n:=by simp) (k:dm nx0 (liveK hp0)=true:=by rfl)
 (b:ak (liveK hp0) vs:=by simp[ak,ax,liveK]) (g:bV (liveK hp0) hp0:=by simp[bV,ak,ax,liveK,aM,cm]) (p:∀i,i∈liveK hp0->i∈keys u:=by simp[liveK,keys]):Con prog f vs hp0 v u :=
 Rj nx0 ID l o a m h e k b g p ks fun c J q Y=>j c J q Y ⟨J,Y⟩
end
attribute[go_sem]ntmps116 results116 ntmps18 results18 ntmps46 results46 ntmps123 results123 ntmps9 results9 ntmps13 results13 ntmps43 results43 ntmps69 results69 ntmps70 results70 ntmps115 results115 ntmps64 results64 ntmps121 results121 ntmps37 results37 ntmps38 results38 ntmps10 results10 ntmps39 results39 ntmps6 results6 ntmps40 results40 ntmps49 results49 ntmps50 results50 ntmps51 results51 ntmps52 results52 ntmps53 results53 ntmps54 results54 ntmps57 results57 ntmps58 results58 ntmps59 results59 ntmps60 results60 ntmps61 results61 ntmps100 results100 ntmps84 results84 ntmps67 results67 ntmps317 results317 ntmps235 results235 ntmps96 results96 ntmps97 results97 ntmps98 results98 ntmps41 results41 ntmps42 results42 ntmps44 results44 ntmps45 results45 ntmps47 results47 ntmps99 results99 ntmps48 results48 ntmps19 results19 ntmps20 results20 ntmps119 results119 ntmps120 results120 ntmps95 results95 ntmps122 results122 ntmps35 results35 ntmps94 results94 ntmps124 results124 ntmps125 results125 ntmps126 results126 ntmps127 results127 ntmps65 results65 ntmps128 results128 ntmps130 results130 ntmps131 results131 ntmps132 results132 ntmps133 results133 ntmps134 results134 ntmps135 results135 ntmps136 results136 ntmps137 results137 ntmps354 results354 ntmps174 results174 ntmps101 results101 ntmps102 results102 ntmps103 results103 ntmps104 results104 ntmps105 results105 ntmps106 results106 ntmps107 results107 ntmps108 results108 ntmps109 results109 ntmps110 results110 ntmps111 results111 ntmps112 results112 ntmps113 results113 ntmps114 results114 ntmps26 results26 ntmps117 results117 ntmps118 results118 ntmps71 results71 ntmps72 results72 ntmps190 results190 ntmps191 results191 ntmps164 results164 ntmps172 results172 ntmps170 results170 ntmps171 results171 ntmps30 results30 ntmps163 results163 ntmps165 results165 ntmps166 results166 ntmps167 results167 ntmps168 results168 ntmps169 results169 ntmps192 results192 ntmps139 results139 ntmps140 results140 ntmps193 results193 ntmps196 results196 ntmps197 results197 ntmps198 results198 ntmps201 results201 ntmps203 results203 ntmps204 results204 ntmps205 results205 ntmps206 results206 ntmps207 results207 ntmps208 results208 ntmps209 results209 ntmps62 results62 ntmps210 results210 ntmps16 results16 ntmps211 results211 ntmps212 results212 ntmps243 results243 ntmps175 results175 ntmps176 results176 ntmps177 results177 ntmps179 results179 ntmps180 results180 ntmps182 results182 ntmps183 results183 ntmps184 results184 ntmps185 results185 ntmps188 results188 ntmps81 results81 ntmps141 results141 ntmps142 results142 ntmps21 results21 ntmps254 results254 ntmps236 results236 ntmps239 results239 ntmps237 results237 ntmps241 results241 ntmps242 results242 ntmps234 results234 ntmps63 results63 ntmps257 results257 ntmps258 results258 ntmps12 results12 ntmps259 results259 ntmps260 results260 ntmps261 results261 ntmps85 results85 ntmps262 results262 ntmps263 results263 ntmps264 results264 ntmps32 results32 ntmps265 results265 ntmps266 results266 ntmps267 results267 ntmps17 results17 ntmps8 results8 ntmps268 results268 ntmps269 results269 ntmps68 results68 ntmps270 results270 ntmps271 results271 ntmps272 results272 ntmps273 results273 ntmps274 results274 ntmps275 results275 ntmps276 results276 ntmps277 results277 ntmps278 results278 ntmps280 results280 ntmps281 results281 ntmps282 results282 ntmps283 results283 ntmps284 results284 ntmps285 results285 ntmps286 results286 ntmps33 results33 ntmps34 results34 ntmps287 results287 ntmps28 results28 ntmps288 results288 ntmps289 results289 ntmps290 results290 ntmps291 results291 ntmps158 results158 ntmps292 results292 ntmps293 results293 ntmps294 results294 ntmps295 results295 ntmps321 results321 ntmps213 results213 ntmps214 results214 ntmps215 results215 ntmps73 results73 ntmps74 results74 ntmps75 results75 ntmps76 results76 ntmps77 results77 ntmps78 results78 ntmps79 results79 ntmps318 results318 ntmps319 results319 ntmps31 results31 ntmps325 results325 ntmps326 results326 ntmps327 results327 ntmps29 results29 ntmps36 results36 ntmps66 results66 ntmps328 results328 ntmps329 results329 ntmps330 results330 ntmps331 results331 ntmps332 results332 ntmps335 results335 ntmps336 results336 ntmps337 results337 ntmps93 results93 ntmps86 results86 ntmps87 results87 ntmps88 results88 ntmps89 results89 ntmps90 results90 ntmps92 results92 ntmps338 results338 ntmps339 results339 ntmps340 results340 ntmps218 results218 ntmps296 results296 ntmps297 results297 ntmps298 results298 ntmps151 results151 ntmps299 results299 ntmps300 results300 ntmps144 results144 ntmps146 results146 ntmps147 results147 ntmps148 results148 ntmps149 results149 ntmps150 results150 ntmps152 results152 ntmps162 results162 ntmps364 results364 ntmps365 results365 ntmps159 results159 ntmps160 results160 ntmps310 results310 ntmps341 results341 ntmps342 results342 ntmps343 results343 ntmps344 results344 ntmps220 results220 ntmps217 results217 ntmps219 results219 ntmps221 results221 ntmps232 results232 ntmps233 results233 ntmps373 results373 ntmps374 results374 ntmps375 results375 ntmps376 results376 ntmps377 results377 ntmps229 results229 ntmps230 results230 ntmps367 results367 ntmps311 results311 ntmps301 results301 ntmps316 results316 ntmps380 results380 ntmps314 results314 ntmps353 results353 ntmps351 results351 ntmps352 results352 ntmps350 results350 ntmps396 results396 ntmps401 results401
theorem δ{A p q:Prop}(x:A)(k:q)(e:A->q->p:=by intro x y;simp only[go_sem,J];apply aa Z x;exact y):p:=e x k
theorem θ{p q:Prop}(k:q)(e:q->p:=by intro y;simp only[go_sem,J];exact y):p:=e k
theorem ba{f:FuncId}{code:Code}{vs:List AV}{v:AV}{n:Nat}{rs:Array ResultVar}(fn:Func)(ks:List Nat)(h:∀c:Ctx,c.P=prog->(∀i,c.ρ0 i≠none->False)->XOk c (EndF prog rs.toList v)->XK prog ks c (EndF prog rs.toList v)->XW c (EndF prog rs.toList v) ks 2000 [.code code] ⟨n,qZ 0 vs,[],0⟩)(l:prog.funcs[f]?=some fn:=by kernel_rfl)(m:fn.ntmps=n:=by simp only[go_sem];rfl)(g:fn.results=rs:=by simp only[go_sem];rfl)(o:fn.body=some code:=by exact rfl)(a:(fn.name=="runtime.NumGoroutine")=false:=by kernel_rfl) (e:vs.length<=n:=by simp)(b:ak [] vs:=by simp[ak,ax]):FPure prog f vs v:=en l m g ks h o a e b
theorem bn{f:FuncId}{code:Code}{vs:List AV}{v:AV}{n:Nat}{rs:Array ResultVar}{u hp0:List (Nat×Option Blk)}(nx0:Nat)(fn:Func)(ks:List Nat)(j:∀c:Ctx,c.P=prog->(∀i,c.ρ0 i≠none->i∈liveK hp0)->XOk c (xk prog rs.toList v (liveK hp0) u)->XK prog ks c (xk prog rs.toList v (liveK hp0) u)->XW c (xk prog rs.toList v (liveK hp0) u) ks 2000 [.code code] ⟨n,qZ 0 vs,hp0,nx0⟩)(o:prog.funcs[f]?=some fn:=by kernel_rfl)(p:fn.ntmps=n:=by simp only[go_sem];rfl)(h:fn.results=rs:=by simp only[go_sem];rfl)(q:fn.body=some code:=by exact rfl)(a:(fn.name=="runtime.NumGoroutine")=false:=by kernel_rfl) (e:vs.length<=n:=by simp)(k:dm nx0 (liveK hp0)=true:=by rfl)(b:ak (liveK hp0) vs:=by simp[ak,ax,liveK])(g:bV (liveK hp0) hp0:=by simp[bV,ak,ax,liveK,aM,cm])(r:∀i,i∈liveK hp0->i∈keys u:=by simp[liveK,keys]):Con prog f vs hp0 v u:=ec nx0 o p h ks j q a e k b g r
theorem ac(i:Nat)(h:i<9223372036854775807:=by omega):h'.wrap ((i:Int)+1)=((i+1:Nat):Int):=by rw[ab ω ω];omega
section
variable {f : FuncId} {fn : Func} {code : Code} {vs : List AV} {v : AV} {n : Nat} {rs : Array ResultVar}
variable {G : Prop} {ks : List Nat} {c : Ctx} {E : AS → Prop} {st : AS} {d : Option Nat} {H : List FP → AS → Prop} (hK : XK prog ks c E) [i : IsC G c E ks f vs st d H]
include hK
theorem x_f{a b:List AV}(j:FPure prog f a v)(h:H [(dj vs,dj vs)] (eff st d v (fg (dj vs)) st.nx))(e:fzL st.hp vs=b:=by simp only[go_sem];rfl)(k:b=a:=by rfl)(ho:ik st.hp vs:=by simp only[go_sem])(g:dm st.nx (dj vs)=true:=by rfl)(hv:ax [] v:=by simp only[go_sem,ax,ak,and_self]):G:=QK hK j (e.trans k) ho g hv h
theorem x_k{e:List AV}{hp0:List (Nat×Option Blk)}{v0:AV}{b:List (Nat×Option Blk)}(nx:Nat)(m:Con prog f e hp0 v0 b)
 (h:H [((liveK hp0).map (fun i=>i)++[],keys (renU (fun i=>i) b++fg []))] (eff st d (renA (fun i=>i) v0) (renU (fun i=>i) b++fg []) nx))
 (g:aj (hget st.hp) [] (fun i=>i) e vs:=by simp only[go_sem]) (a:iU (hget st.hp) [] (fun i=>i) hp0:=by simp only[go_sem]) (o:cP ((keys b).map fun i=>i)=true:=by rfl) (le:st.nx<=nx:=by exact cV rfl)
 (j:∀i,i∈keys b->i∈liveK hp0\/(st.nx<=i/\i<nx):=by exact fun i hi => .inl (by simp[keys] at hi;simp[liveK,hi])) (k:ax (keys b) v0:=by simp[ax,ak,keys]) (l:bV (keys b) b:=by simp[bV,ak,ax,keys])
 (p:dm nx ((liveK hp0).map (fun i=>i)++[])=true:=by rfl):G:=Hg hK [] (fun i=>i) nx m ⟨g,a,o,trivial,le,j,k,l,rfl⟩ p h
end
abbrev sv(l:List UInt8):AV := .p (.v (.string ⟨l.toArray⟩))
theorem abv(l:List UInt8):(⟨l.toArray⟩:ByteArray).size=l.length:=by simp[ByteArray.size]
theorem cK(l:List UInt8):(⟨l.toArray⟩:ByteArray).toList=l:=by rw[ByteArray.toList_eq]
theorem oR(l:List UInt8)(a b:Nat):(⟨l.toArray⟩:ByteArray).extract a b=⟨((l.take b).drop a).toArray⟩:=by
 apply ByteArray.ext;rw[ByteArray.data_extract];apply Array.ext';simp[List.drop_take]
theorem EQ(a b:List UInt8):(⟨a.toArray⟩:ByteArray)++⟨b.toArray⟩=⟨(a++b).toArray⟩:=by
 apply ByteArray.ext;rw[ByteArray.data_append];simp
section
open Go.WideShapes Go.ChangeShapes
variable {H : Type} {enc : TypeId × Value → H}
theorem PE{P:Program}{w:World}{t e:TypeId}{k:IntKind}{o:Nat}{v:Value}{x:DataW H×List MemPlace}(F:P.underlying t=some (.slice e))(I:P.underlying e=some (.int k))(K:P.cellsOf e=1)
 (h:DataW.trod enc P w 0 (fun _=>true) true o t [v]=some x) :
 ∃zs:List Int,zs.length<=maxLen/\(∀z∈zs,(Lit.int k z).wf=true)/\RdP (fun b=>b<w.heap.size) w (.data 1 zs.length (zs.map fun z => .v (.int k z))) v:=by
 rcases open_ints F I K h with⟨l,_⟩|⟨a,len,cap,zs,l,N,L,O,u,_,g,A⟩
 .simp only[e'.injEq,and_true] at l;subst l;exact⟨[],gi _,η,.nil 1 none 0⟩
 .simp only[e'.injEq,and_true] at l;subst l;simp only[if_true] at u;refine⟨zs.take len,ζ,fun z M=>A z (List.mem_of_mem_take M),?_⟩;have B:(zs.take len).length=len:=ζ;rw[B];cases len with
  |zero =>
   simp only[List.take_zero,a'];exact .nil 1 _ _
  |succ len =>
   obtain⟨b,off,m⟩:=a;have l:=g 0 ω;have C:m=none:=by
    cases m with
    |none=>rfl
    |some s=>simp[World.cell?,Addr.add] at l;split at l<;>simp at l
   subst C;have p:b<w.heap.size:=by
    rcases ea b w.heap.size with h1|h1
    .exact h1
    .simp[World.cell?,Addr.add,Array.getElem?_eq_none h1] at l
   refine .data 1 (len+1) _ b off cap (fun j => .int k (zs.getD j 0)) ζ L p (fun j q=>?_) (fun j _=>rfl) (fun j c q=>?_)
   .have D:j<zs.length:=by simp at q;omega
    have:=g j D;rw[dJ] at this;exact this
   .simp only[List.getElem?_map,nL] at q;obtain⟨y,r,rfl⟩:=q;rw[l0] at r;split at r
    .have:zs.getD j 0=y:=by rw[cR,r];rfl
     rw[this];exact .v _ rfl
    .cases r
theorem own:ownKnob prog.godebug=none:=π
theorem laid:laidOutB prog=true:=π
theorem om{W W':World}(b:Below W.heap.size W W'):∀{ts:List TypeId} {vs:List Value} {ds:List (DataW H)} {ps:List MemPlace},(∀t,t∈ts->prog.readableRec t=true/\t<prog.types.size) ->
 DataW.TrodAll enc prog W 0 (fun _=>true) true ts vs ds ps->(∀x∈ps,x.block<W.heap.size)->∀sp:Nat->Bool,(∀x∈ps,sp x.block=true)->DataW.TrodAll enc prog W' 0 sp true ts vs ds ps
 |[],vs,ds,ps,_,h,_,sp,_=>by
  obtain⟨rfl,rfl,rfl⟩:=trodAll_nil h;exact trodAll_mk0
 |t::ts,vs,ds,ps,hts,h,hlt,sp,hsp=>by
  obtain⟨v,vs',d,g,p,q,rfl,rfl,rfl,j,k⟩:=trodAll_cons h;have e:=hts t η;exact trodAll_cons_mk (WideElems.Trod_stays laid e.1 e.2 j (fun x a=>b.same (hlt x (by simp[a]))) (fun x a=>hsp x (by simp[a])))
   (om b (fun t l=>hts t (by simp[l])) k (fun x a=>hlt x (by simp[a])) sp (fun x a=>hsp x (by simp[a])))
theorem xe{f:Func}{s:ChangeSpec}{e w g x:Bool}{P:Program}{W W':World}{h:Array Value}{v:Value}{ds gs:List (DataW H)}{a pa pv:List MemPlace}
 (B:DataW.Whole enc P f.params.toList s.vars e W h.toList ds gs a)
 (q:∀(b:Nat) (y:Nat->Bool) (F:Bool),DataW.TrodAll enc P W' b y F f.resultTypes.toList (v.resultList f.resultTypes.size) (s.fn H (ds++gs)).results [])
 (k:∀y:Nat->Bool,(∀p∈a,y p.block=true)->DataW.TrodAll enc P W' 0 y true f.params.toList h.toList (s.fn H (ds++gs)).args pa)
 (l:∀y:Nat->Bool,(∀p∈a,y p.block=true)->DataW.TrodVars enc P W' y s.vars (s.fn H (ds++gs)).vars pv)
 (o:a=pa++pv) (D:Below W.heap.size W W')
 (C:∀(j:Nat) (t:TypeId) (r:Value),f.resultTypes[j]?=some t->(v.resultList f.resultTypes.size)[j]?=some r->Value.okWide P W' .any 0 t r) :
 s.post enc P f e w g x W h v W':=by
 have z:∀p∈a,p.block<W.heap.size:=fun p m=>B.lt p m
 have u:∀p∈a,(fun b=>decide (b<W.heap.size)) p.block=true:=fun p m=>by simpa using z p m
 refine⟨ds,gs,a,[],pa,pv,B,q _ _ _,k _ u,l _ u,World.keptBut_mono (fun p m=>⟨m,?_⟩) (D.frame (·∈a)),fun _=>?_⟩
 .rw[o,o1] at m;exact Or.inr m
 .obtain⟨_,_,_,_,_,I,K⟩:=B;refine⟨C,_,_,([]++pa)++pv,⟨[]++pa,pv,trodAll_append (k _ (fun _ _=>rfl)) (q _ _ _),l _ (fun _ _=>rfl),rfl,?_,?_⟩,?_⟩
  .intro b off m;have A:MemPlace.cell b off∈a:=by rw[o];simpa using m
   rw[D.frozen (z _ A)];exact I b off A
  .intro ha;have:=K ha;rw[o] at this;simpa using this
  .intro p m _;rw[o];simpa using m
theorem IE{P:Program}{f:FuncId}{vs:List AV}(h:FPure P f vs (.b true))(m:∀us w,(callFunc f us).run P w = .ok (.enter f us) w){us:Array Value}{w:World}(hg:GlobOk (fun b=>b<w.heap.size) w)(o:us.size=vs.length)(p:∀j c,vs[j]?=some c->Rd (fun _=>none) (fun b=>b<w.heap.size) w c (us.getD j undef)) :
 Calls P f us w (fun e w'=>e = .returned (.bool true)/\Below w.heap.size w w'):=by
 refine((h (fun _=>none)).calls m (ρ:=fun _=>none) (F:=fun b=>b<w.heap.size) ⟨fun b a=>a,⟨fun i k q=>by simp[restr] at q,fun i j b g=>by simp[restr] at g⟩,fun i _ _=>rfl,hg⟩ o p).mono ?_;rintro e w' ⟨x,ρ',F',rfl,l⟩;refine⟨by rw[l.rd.pv],?_⟩;exact(l.chg.mono (O':=fun _=>False) (fun b a=>by obtain⟨i,g,_⟩:=a;simp[keys] at g)).below
end
attribute [go_sem] g6 fK pA j9
theorem Un(x:UInt64)(k:Nat)(a:k<64):FPure prog 312 [.w x,.i k] (.w (oA x k)):=by
 refine en func312 ntmps312 results312 [0,1,4,5] ?_;intro c J g Y Z;have b:i'.wrap (k:Int)=k:=ao ω ω;have e:i'.wrap (64-(k:Int))=((64-k:Nat):Int):=by rw[ao ω ω];omega
 simp only[go_sem,J,b,ZZ k a,e,kZ x (k:Int) (show k<=64 by omega),oz x ((64-k:Nat):Int) (show 64-k<=64 by omega)];exact⟨ω,ω,rfl⟩
theorem Uo(x:UInt64)(k:Int)(a:0<=k)(h1:k<64):FPure prog 312 [.w x,.i k] (.w (oA x k.toNat)):=by
 obtain⟨n,rfl⟩:=i0 a;exact Un x n ω
structure V4 where
 a:UInt64
 b:UInt64
 c:UInt64
 d:UInt64
def Ai(v:V4):V4 :=
 let v0:=v.a+v.b
 let v1:=oA v.b 13 ^^^ v0
 let v0:=oA v0 32
 let v2:=v.c+v.d
 let v3:=oA v.d 16 ^^^ v2
 let v0:=v0+v3
 let v3:=oA v3 21 ^^^ v0
 let v2:=v2+v1
 let v1:=oA v1 17 ^^^ v2
 let v2:=oA v2 32
 ⟨v0,v1,v2,v3⟩
def lJ:Nat->V4->V4
 |0,v=>v
 |n+1,v=>Ai (lJ n v)
def V4.cs(v:V4):List AV:=[.w v.a,.w v.b,.w v.c,.w v.d]
abbrev stT:Nat:=275
@[simp] theorem ae6(T:List Nat)(v:V4):ak T v.cs:=by simp[V4.cs,ak,ax]
attribute [go_sem] V4.cs
theorem Cy(v:V4)(n:Nat)(l:n<1000):Con prog 224 [.ptr 0 0,.i n] [(0,some ⟨stT,v.cs⟩)] (.tup []) [(0,some ⟨stT,(lJ n v).cs⟩)]:=by
 refine ec 1 func224 ntmps224 results224 [0,1,4,5,6] ?_;intro c J j Y Z;simp only[go_sem];refine bK Y [0] (fun i a=>by have:=j i a;simpa[liveK] using this) [0,1,4,5,6] n (fun k=>⟨144,[(0,.ptr 0 0),(4,.i n),(5,.i k)],[(0,some ⟨stT,(lJ k v).cs⟩)],1⟩) [] (fun i=>i) ⟨rfl,by simp only[go_sem]<;>rfl,by simp only[go_sem]<;>exact⟨rfl,rfl,rfl,rfl⟩,rfl,rfl,trivial,fun i h=>h⟩ (fun i _=>rfl) ?_;intro k m;generalize g:lJ k v=w;by_cases b:k<n
 .simp only[go_sem,J,(ω:((k:Int)<(n:Int)))]
  repeat first
   |(refine aa Z (Uo _ _ ε ε) ?_;simp only[go_sem,J])
   |(refine⟨π,?_⟩;try simp only[go_sem,J])
  have e:h'.wrap ((k:Int)+1)=((k+1:Nat):Int):=by rw[ab ω ω];omega
  refine⟨b,kY [0] [0] rfl ?_ ?_ rfl rfl (c7 _) (fun i a=>by simp at a;subst a;rfl)⟩
  .rw[e];simp only[go_sem]
  .simp only[lJ,g,go_sem];exact⟨rfl,rfl,rfl,rfl⟩
 .obtain rfl:k=n:=by omega
  simp only[go_sem,(ω:¬((k:Int)<(k:Int)))];refine aq [0] rfl ?_ ?_ rfl rfl (fun i a=>by simp at a;subst a;exact⟨rfl,ξ⟩) (fun i a=>by simp[liveK] at a;simp;omega)
  .simp only[go_sem]
  .rw[g];simp only[go_sem]
def cL(v:V4)(m:UInt64):V4 :=
 let w:=lJ 2 ⟨v.a,v.b,v.c,v.d ^^^ m⟩
 ⟨w.a ^^^ m,w.b,w.c,w.d⟩
theorem Cz(v:V4)(m:UInt64):Con prog 222 [.ptr 0 0,.w m] [(0,some ⟨stT,v.cs⟩)] (.tup []) [(0,some ⟨stT,(cL v m).cs⟩)]:=by
 refine ec 1 func222 ntmps222 results222 [0,1] ?_;intro c J g Y Z;have e:=Cy ⟨v.a,v.b,v.c,v.d ^^^ m⟩ 2 ε;have ha:cL v m=⟨(lJ 2 ⟨v.a,v.b,v.c,v.d ^^^ m⟩).a ^^^ m,(lJ 2 ⟨v.a,v.b,v.c,v.d ^^^ m⟩).b,(lJ 2 ⟨v.a,v.b,v.c,v.d ^^^ m⟩).c,(lJ 2 ⟨v.a,v.b,v.c,v.d ^^^ m⟩).d⟩:=rfl;generalize lJ 2 ⟨v.a,v.b,v.c,v.d ^^^ m⟩=s at *;simp only[go_sem,J];refine x_k Z 1 e ?_;simp only[go_sem,J];refine aq [0] rfl ?_ ?_ rfl rfl (fun i hi=>by simp at hi;subst hi;exact⟨rfl,ξ⟩) (fun i hi=>by simp[liveK] at hi;simp;omega)
 .simp only[go_sem]
 .rw[ha];simp only[go_sem]
def rG(bs:List UInt8):Nat->UInt64
 |0=>0
 |k+1=>rG bs k ||| eJ (bs.getD k 0).toUInt64 (8*k)
abbrev dat(bs:List UInt8):AV := .p (.data 1 bs.length (bs.map bt))
theorem LZ(bs:List UInt8)(j:bs.length<=8):FPure prog 223 [dat bs] (.w (rG bs bs.length)):=by
 refine en func223 ntmps223 results223 [0,2,3,4,5,6,7,8,9] ?_;intro c J e Y Z;simp only[go_sem,J];refine ay Y e [0,2,3,4,5,6,7,8,9] bs.length (fun k=>⟨22,[(3,.w (rG bs k)),(6,dat bs),(7,.i bs.length),(8,.i k)],[],0⟩) [] (fun i=>i) ⟨rfl,by simp only[go_sem];exact rfl,trivial,rfl,rfl,trivial,fun i h=>h⟩ ?_;intro k l;by_cases a:k<bs.length
 .have g:h'.wrap (8*(k:Int))=((8*k:Nat):Int):=by rw[ab ω ω];omega
  have b:h'.wrap ((k:Int)+1)=((k+1:Nat):Int):=by rw[ab ω ω];omega
  simp only[go_sem,J,(ω:((k:Int)<(bs.length:Int))),dS,g,b,kZ _ ((8*k:Nat):Int) (show 8*k<=64 by omega)];refine⟨ω,ω,ω,a,eh rfl ?_ trivial rfl rfl (c7 _)⟩;simp only[go_sem];exact rfl
 .obtain rfl:k=bs.length:=by omega
  simp only[go_sem,(ω:¬((bs.length:Int)<(bs.length:Int)))]
theorem CA(bs:List UInt8)(n:Nat)(a:bs.length=n)(b:n<=8):FPure prog 223 [.p (.data 1 n (bs.map bt))] (.w (rG bs n)):=by
 subst a;exact LZ bs b
def oo(k0 k1:UInt64):V4:=⟨k0 ^^^ 0x736f6d6570736575,k1 ^^^ 0x646f72616e646f6d,k0 ^^^ 0x6c7967656e657261,k1 ^^^ 0x7465646279746573⟩
def ER(bs:List UInt8)(v:V4):Nat->V4
 |0=>v
 |i+1=>cL (ER bs v i) (rG ((bs.drop (8*i)).take 8) 8)
def ga(bs:List UInt8):UInt64:=rG (bs.drop (8*(bs.length/8))) (bs.length-8*(bs.length/8)) ||| eJ (k' bs.length) 56
def L3(v:V4):UInt64 :=
 let w:=lJ 4 ⟨v.a,v.b,v.c ^^^ 0xff,v.d⟩
 w.a ^^^ w.b ^^^ w.c ^^^ w.d
def bA(k0 k1:UInt64)(bs:List UInt8):UInt64:=L3 (cL (ER bs (oo k0 k1) (bs.length/8)) (ga bs))
theorem abw(e g:UInt64)(bs:List UInt8)(K:bs.length<1000000000):FPure prog 153 [.w e,.w g,dat bs] (.w (bA e g bs)):=by
 refine en func153 ntmps153 results153 [0,1,2,6,7,8,9,22,23,24] ?_;intro c J q Y Z;have r:kq .u64 (e.toNat:Int) 8317987319222330741=((e ^^^ 0x736f6d6570736575).toNat:Int):=fK e 0x736f6d6570736575;have s:kq .u64 (g.toNat:Int) 7237128888997146477=((g ^^^ 0x646f72616e646f6d).toNat:Int):=fK g 0x646f72616e646f6d;have t:kq .u64 (e.toNat:Int) 7816392313619706465=((e ^^^ 0x6c7967656e657261).toNat:Int):=fK e 0x6c7967656e657261;have x:kq .u64 (g.toNat:Int) 8387220255154660723=((g ^^^ 0x7465646279746573).toNat:Int):=fK g 0x7465646279746573;have y:h'.wrap ((bs.length:Int).tdiv 8)=((bs.length/8:Nat):Int):=by
  rw[Int.tdiv_eq_ediv_of_nonneg ω,ab ω ω];omega
 simp only[go_sem,J,r,s,t,x,y];refine ay Y q [0,1,2,6,7,8,9,22,23,24] (bs.length/8) (fun i=>⟨63,[(2,dat bs),(7,.ptr 0 0),(8,.i ((bs.length/8:Nat):Int)),(22,.i ((bs.length/8:Nat):Int)),(23,.i i)],[(0,some ⟨stT,(ER bs (oo e g) i).cs⟩)],1⟩) [] (fun i=>i) ⟨rfl,?_,?_,rfl,rfl,trivial,fun i h=>h⟩ ?_
 .simp only[go_sem]
 .simp only[go_sem];exact⟨rfl,rfl,rfl,rfl⟩
 intro i hi;generalize hv:ER bs (oo e g) i=v;by_cases l:i<bs.length/8
 .have m:h'.wrap (8*(i:Int))=((8*i:Nat):Int):=by rw[ab ω ω];omega
  have o:h'.wrap (((8*i:Nat):Int)+8)=((8*i+8:Nat):Int):=by rw[ab ω ω];omega
  have p:h'.wrap ((i:Int)+1)=((i+1:Nat):Int):=by rw[ab ω ω];omega
  have A:8*i+8-8*i=8:=ω;have j:=Cz v (rG ((bs.drop (8*i)).take 8) 8);have k:ER bs (oo e g) (i+1)=cL v (rG ((bs.drop (8*i)).take 8) 8):=by rw[<-hv];rfl
  rw[k];simp only[go_sem,J,(ω:((i:Int)<((bs.length/8:Nat):Int))),m,o,A,AP];refine⟨ω,?_⟩;apply aa Z (CA _ 8 ζ ω);simp only[go_sem];generalize cL v (rG ((bs.drop (8*i)).take 8) 8)=u at *;refine x_k Z 1 j ?_;simp only[go_sem,p];refine⟨l,aA [0] rfl ?_ ?_ rfl rfl (c7 _)⟩
  .simp only[go_sem]
  .simp only[go_sem]
 .obtain rfl:i=bs.length/8:=by omega
  have m:h'.wrap (8*((bs.length/8:Nat):Int))=((8*(bs.length/8):Nat):Int):=by rw[ab ω ω];omega
  have B:(bs.drop (8*(bs.length/8))).take (bs.length-8*(bs.length/8))=bs.drop (8*(bs.length/8)):=cD η;have C:i'.wrap (bs.length:Int)=((k' bs.length).toNat:Int):=by rw[ao ω ω];exact lX _ ω
  have D:(rG (bs.drop (8*(bs.length/8))) (bs.length-8*(bs.length/8)) ||| eJ (k' bs.length) 56)=ga bs:=rfl;have j:=Cz v (ga bs);have hs:bA e g bs=(lJ 4 ⟨(cL v (ga bs)).a,(cL v (ga bs)).b,(cL v (ga bs)).c ^^^ 0xff,(cL v (ga bs)).d⟩).a ^^^ (lJ 4 ⟨(cL v (ga bs)).a,(cL v (ga bs)).b,(cL v (ga bs)).c ^^^ 0xff,(cL v (ga bs)).d⟩).b ^^^
   (lJ 4 ⟨(cL v (ga bs)).a,(cL v (ga bs)).b,(cL v (ga bs)).c ^^^ 0xff,(cL v (ga bs)).d⟩).c ^^^ (lJ 4 ⟨(cL v (ga bs)).a,(cL v (ga bs)).b,(cL v (ga bs)).c ^^^ 0xff,(cL v (ga bs)).d⟩).d:=by rw[<-hv];rfl
  simp only[go_sem,J,(ω:¬(((bs.length/8:Nat):Int)<((bs.length/8:Nat):Int))),m,B,AP];refine⟨ω,?_⟩;apply aa Z (CA _ _ η ω);simp only[go_sem,J,C,kZ _ 56 ε,D];generalize ga bs=lw at *;generalize cL v lw=u at *;refine x_k Z 1 j ?_;have F:kq .u64 (u.c.toNat:Int) 255=((u.c ^^^ 0xff).toNat:Int):=fK u.c 0xff;simp only[go_sem,J,F];have I:=Cy ⟨u.a,u.b,u.c ^^^ 0xff,u.d⟩ 4 ε;generalize lJ 4 ⟨u.a,u.b,u.c ^^^ 0xff,u.d⟩=z at *;refine x_k Z 1 I ?_;simp only[go_sem,J];rw[hs]
theorem Q2(a b:UInt64)(bs:List UInt8)(n:Nat)(e:bs.length=n)(g:n<1000000000):FPure prog 153 [.w a,.w b,.p (.data 1 n (bs.map bt))] (.w (bA a b bs)):=by
 subst e;exact abw a b bs g
theorem Up(d:Int)(bs:List UInt8)(n:Nat)(a:bs.length=n)(b:n<1000000000)(g:0<=d)(h1:d<1000):FPure prog 80 [.i d,.p (.data 1 n (bs.map bt))] (.w (bA (k' d.toNat) 0 bs)):=by
 refine en func80 ntmps80 results80 [0,1,4] ?_;intro c J g Y Z;have e:i'.wrap d=((k' d.toNat).toNat:Int):=by rw[ao ω ω,<-lX _ ω];omega
 simp only[go_sem,J,e];apply aa Z (Q2 (k' d.toNat) 0 bs n a b);simp only[go_sem]
theorem L4(k:UInt64)(d:Int)(bs:List UInt8)(n:Nat)(a:bs.length=n)(b:n<1000000000)(g:0<=d)(h1:d<1000):FPure prog 189 [.w k,.i d,.p (.data 1 n (bs.map bt))] (.w (bA k (k' (d.toNat+1)) bs)):=by
 refine en func189 ntmps189 results189 [0,1,2,6] ?_;intro c J g Y Z;have e:i'.wrap d=d:=by rw[ao ω ω]
 have h:i'.wrap (1+d)=((k' (d.toNat+1)).toNat:Int):=by rw[ao ω ω,<-lX _ ω];omega
 simp only[go_sem,J,e,h];apply aa Z (Q2 k (k' (d.toNat+1)) bs n a b);simp only[go_sem]
def dc(w:UInt64):Nat->List UInt8
 |0=>[]
 |k+1=>dc w k++[(fu w (56-8*k)).toUInt8]
theorem az(w:UInt64)(k:Nat):(dc w k).length=k:=by
 induction k with
 |zero=>rfl
 |succ k a=>simp[dc,a]
def an(ws:List UInt64):Nat->List UInt8
 |0=>[]
 |i+1=>an ws i++dc (ws.getD i 0) 8
theorem am(a:List UInt64)(i:Nat):(an a i).length=8*i:=by
 induction i with
 |zero=>rfl
 |succ i b=>simp[an,b,az];omega
abbrev bP:Nat:=5
theorem GC(a:List UInt64)(n:Nat)(s:a.length=n)(t:n<1000000):FPure prog 84 [.p (.data 1 n (a.map wd))] (.p (.data 1 (8*n) ((an a n).map bt))):=by
 refine en func84 ntmps84 results84 [0,2,3,5,6,11,12,13,14,17,18] ?_;intro c J m Y Z;have o:h'.wrap (8*(n:Int))=((8*n:Nat):Int):=by rw[ab ω ω];omega
 simp only[go_sem,J,o];refine⟨ω,?_⟩;refine ay Y m [0,2,3,5,6,11,12,13,14,17,18] n (fun i=>⟨32,[(3,.sl 0 0 (8*i) 1),(11,.p (.data 1 n (a.map wd))),(12,.i n),(13,.i i)],[(0,some ⟨bP,cb (an a i)⟩)],1⟩) [] (fun i=>i) ⟨rfl,κ,by simp only[go_sem]<;>rfl,rfl,rfl,trivial,fun i h=>h⟩ ?_;intro i u;have x:=am a i;by_cases b:i<n
 .simp only[go_sem,J,(ω:((i:Int)<(n:Int))),AO a i];refine⟨ω,ω,?_⟩;generalize q:a.getD i 0=w;refine ay Y m [0,2,3,5,6,11,12,13,14,17,18] 8 (fun j=>⟨32,[(3,.sl 0 0 (8*i+j) 1),(5,.w w),(11,.p (.data 1 n (a.map wd))),(12,.i n),(13,.i i),(17,.i j)],[(0,some ⟨bP,cb (an a i++dc w j)⟩)],1⟩) [] (fun i=>i) ⟨rfl,κ,?_,rfl,rfl,trivial,fun i h=>h⟩ ?_
  .rw[dc,b'];exact agP
  intro j y;by_cases e:j<8
  .have g:h'.wrap (8*(j:Int))=((8*j:Nat):Int):=by rw[ab ω ω];omega
   have hs:h'.wrap (56-((8*j:Nat):Int))=((56-8*j:Nat):Int):=by rw[ab ω ω];omega
   have k:h'.wrap ((j:Int)+1)=((j+1:Nat):Int):=by rw[ab ω ω];omega
   have r:=az w j;simp only[go_sem,J,(ω:((j:Int)<8)),g,hs,k,oz w ((56-8*j:Nat):Int) (show 56-8*j<=64 by omega),aH,fZ];refine⟨ω,⟨ω,ω,ω⟩,e,aA [2] rfl ?_ ?_ rfl rfl (c7 _)⟩
   .exact aiM
   .rw[dc,<-List.append_assoc];exact agP
  .obtain rfl:j=8:=by omega
   have l:h'.wrap ((i:Int)+1)=((i+1:Nat):Int):=by rw[ab ω ω];omega
   simp only[go_sem,show¬((8:Int)<8) from ε,l];refine⟨b,aA [0] rfl ?_ ?_ rfl rfl (c7 _)⟩
   .simp only[go_sem,Nat.mul_add]
   .rw[an,q];exact agP
 .obtain rfl:i=n:=by omega
  exact aid
theorem GD(x:UInt64)(k:Int)(a:0<=k)(h1:k<=64):FPure prog 315 [.w x,.p (.v (.int .u64 k))] (.w (oA x k.toNat)):=by
 refine en func315 ntmps315 results315 [0,1,4] ?_;intro c J a Y Z;have b:i'.wrap (64-k)=64-k:=ao ω ω;have e:(64-k).toNat=64-k.toNat:=ω;simp only[go_sem,b,kZ x k ω,oz x (64-k) ω,pA,oA,e];exact⟨ω,ω⟩
theorem kN(v:V4):FPure prog 231 [.agg v.cs] (.agg (Ai v).cs):=by
 apply tZ ID func231 rfl π ntmps231 results231 η (by simp[ak,ax,V4.cs]) [0,1,2];intro c J a Y;simp only[V4.cs,go_sem,J,g6]
 repeat
  first
   |refine iE Y (ks:=[0,1,2]) (n:=2000) (by rw[J];exact GD _ _ ε ε) ?_
   |refine iD Y (ks:=[0,1,2]) (n:=2000) (by rw[J];exact GD _ _ ε ε) ?_
   |refine⟨π,?_⟩
  try simp only[V4.cs,go_sem,J,g6,fK]
 simp only[Ai]
def rH(bs:List UInt8)(i k:Nat):UInt8:=if i+k<bs.length then bs.getD (i+k) 0 else if k=7 then l' bs.length else 0
def rI(bs:List UInt8)(i:Nat):Nat->UInt64
 |0=>0
 |j+1=>eJ (rI bs i j) 8 ||| (rH bs i (7-j)).toUInt64
def vC(bs:List UInt8)(v:V4):Nat->V4
 |0=>v
 |t+1=>cL (vC bs v t) (rI bs (8*t) 8)
theorem j2(n:Nat):j'.wrap (n:Int)=((l' n).toNat:Int):=by
 rw[dh,nw];omega
def ajA:List Nat:=[0,1,2,6,7,8,9,10,11,24,28,36,44]
attribute[go_sem]ajA
theorem Uq(e g:UInt64)(bs:List UInt8)(n:Nat)(A:bs.length=n)(C:n<1000000000):FPure prog 161 [.w e,.w g,.p (.data 1 n (bs.map bt))] (.w (L3 (vC bs (oo e g) (n/8+1)))):=by
 refine en func161 ntmps161 results161 ajA ?_;intro c J q Y Z;have r:kq .u64 (e.toNat:Int) 8317987319222330741=((e ^^^ 0x736f6d6570736575).toNat:Int):=fK e 0x736f6d6570736575;have s:kq .u64 (g.toNat:Int) 7237128888997146477=((g ^^^ 0x646f72616e646f6d).toNat:Int):=fK g 0x646f72616e646f6d;have t:kq .u64 (e.toNat:Int) 7816392313619706465=((e ^^^ 0x6c7967656e657261).toNat:Int):=fK e 0x6c7967656e657261;have u:kq .u64 (g.toNat:Int) 8387220255154660723=((g ^^^ 0x7465646279746573).toNat:Int):=fK g 0x7465646279746573;simp only[go_sem,J,r,s,t,u];clear r s t u;generalize x:AV.w (L3 (vC bs (oo e g) (n/8+1)))=R at *;refine ay Y q ajA (n/8+1) (fun i=>⟨86,[(2,.p (.data 1 n (bs.map bt))),(7,.ptr 0 0),(8,.i ((8*i:Nat):Int))],[(0,some ⟨284,(vC bs (oo e g) i).cs⟩)],1⟩) [] (fun i=>i) ?_ ?_
 .refine⟨rfl,?_,?_,rfl,rfl,trivial,fun i h=>h⟩
  .simp only[go_sem]
   try simp
  .simp only[go_sem,vC,oo,V4.cs]
 .intro i D;generalize hv:vC bs (oo e g) i=v;simp only[V4.cs,go_sem,J];split
  .refine ay Y q ajA 8 (fun j=>⟨86,[(2,.p (.data 1 n (bs.map bt))),(7,.ptr 0 0),(8,.i ((8*i:Nat):Int)),(9,.w (rI bs (8*i) j)),(10,.i (7-(j:Int)))],[(0,some ⟨284,v.cs⟩)],1⟩) [] (fun i=>i) ?_ ?_
   .refine⟨rfl,?_,?_,rfl,rfl,trivial,fun i h=>h⟩
    .simp only[go_sem,rI]
     try simp
    .simp only[go_sem,V4.cs]
   .intro j F;generalize y:rI bs (8*i) j=m;simp only[V4.cs,go_sem,J,kZ m 8 ε,fK,pA,j2,dS];have z:j<8->(((8*i:Nat):Int)+(7-(j:Int))).toNat=8*i+(7-j):=fun _=>by omega
    have l:rI bs (8*i) (j+1)=eJ m 8 ||| (rH bs (8*i) (7-j)).toUInt64:=by simp only[rI,y]
    split
    ·(try go_unwrap)
     have k:j<8:=ω;split
     .refine⟨⟨ω,ω⟩,ω,k,eh rfl ?_ ?_ rfl rfl (c7 _)⟩
      .simp only[go_sem,l,rH,z k];rw[b9 ω];exact⟨rfl,ω⟩
      .simp only[go_sem]
     .split
      .refine⟨k,eh rfl ?_ ?_ rfl rfl (c7 _)⟩
       .simp only[go_sem,l,rH];rw[b0 ω,b9 ω,A];exact⟨rfl,ω⟩
       .simp only[go_sem]
      .refine⟨k,eh rfl ?_ ?_ rfl rfl (c7 _)⟩
       .simp only[go_sem,l,rH];rw[b0 ω,b0 ω];exact⟨pA (eJ m 8) 0,ω⟩
       .simp only[go_sem]
    .obtain rfl:j=8:=by omega
     subst y;clear z l;apply aa Z (kN ⟨v.a,v.b,v.c,v.d ^^^ rI bs (8*i) 8⟩);simp only[go_sem];apply aa Z (kN _);generalize o:Ai (Ai ⟨v.a,v.b,v.c,v.d ^^^ rI bs (8*i) 8⟩)=w;simp only[V4.cs,go_sem,J,fK];refine⟨ω,eh rfl ?_ ?_ rfl rfl (c7 _)⟩
     .simp only[go_sem];rw[ab ω ω];omega
     .simp only[go_sem,vC,hv,cL,lJ,o]
  .obtain rfl:i=n/8+1:=by omega
   have B:kq .u64 (v.c.toNat:Int) 255=((v.c ^^^ 0xff).toNat:Int):=fK v.c 0xff;rw[hv] at x;simp only[B];apply aa Z (kN ⟨v.a,v.b,v.c ^^^ 0xff,v.d⟩);simp only[go_sem];apply aa Z (kN _);simp only[go_sem];apply aa Z (kN _);simp only[go_sem];apply aa Z (kN _);generalize o:Ai (Ai (Ai (Ai ⟨v.a,v.b,v.c ^^^ 0xff,v.d⟩)))=w;simp only[V4.cs,go_sem,J,fK,<-x,L3,lJ,o]
theorem CB(n:Nat):eJ 0 n=0:=by simp[eJ]
theorem Ur(a b:UInt64)(n:Nat):eJ (a ||| b) n=eJ a n ||| eJ b n:=by
 unfold eJ;apply s9.1;simp only[gr,UInt64.toNat_or];apply Nat.eq_of_testBit_eq;intro i;simp only[Nat.testBit_mod_two_pow,Nat.testBit_or,Nat.testBit_mul_two_pow];cases decide (i<64)<;>cases decide (n<=i)<;>simp
theorem PF(a:UInt64)(m n:Nat):eJ (eJ a m) n=eJ a (m+n):=by
 unfold eJ;apply s9.1;simp only[gr,Nat.pow_add,<-Nat.mul_assoc,Nat.mod_mul_mod]
def gBE(f:Nat->UInt8):Nat->UInt64
 |0=>0
 |j+1=>eJ (gBE f j) 8 ||| (f (7-j)).toUInt64
def gLE(f:Nat->UInt8):Nat->UInt64
 |0=>0
 |j+1=>gLE f j ||| eJ (f j).toUInt64 (8*j)
theorem L5(a:UInt64):eJ a 0=a:=by simp[eJ]
theorem L6(f:Nat->UInt8):gBE f 8=gLE f 8:=by
 simp only[gBE,gLE,Ur,PF,CB,L5,UInt64.zero_or,Nat.reduceAdd,Nat.reduceMul,Nat.reduceSub,UInt64.or_assoc];generalize eJ (f 7).toUInt64 56=x7;generalize eJ (f 6).toUInt64 48=x6;generalize eJ (f 5).toUInt64 40=x5;generalize eJ (f 4).toUInt64 32=x4;generalize eJ (f 3).toUInt64 24=x3;generalize eJ (f 2).toUInt64 16=x2;generalize eJ (f 1).toUInt64 8=x1;generalize(f 0).toUInt64=x0
 ac_rfl
theorem ES(bs:List UInt8)(i:Nat):∀j,rI bs i j=gBE (rH bs i) j
 |0=>rfl
 |j+1=>by simp only[rI,gBE,ES bs i j]
theorem ET(bs:List UInt8):∀j,rG bs j=gLE (fun k=>bs.getD k 0) j
 |0=>rfl
 |j+1=>by simp only[rG,gLE,ET bs j]
theorem rJ{f g:Nat->UInt8}:∀{j:Nat},(∀k,k<j->f k=g k)->gLE f j=gLE g j
 |0,_=>rfl
 |j+1,h=>by simp only[gLE];rw[rJ fun k a=>h k ω,h j ω]
theorem CC{f:Nat->UInt8}{j:Nat}:∀{m:Nat},(∀k,j<=k->k<j+m->f k=0)->gLE f (j+m)=gLE f j
 |0,_=>rfl
 |m+1,h=>by
  show gLE f (j+m) ||| eJ (f (j+m)).toUInt64 (8*(j+m))=gLE f j
  rw[CC fun k a b=>h k a ω,h (j+m) ω ω];show gLE f j ||| eJ 0 _=_
  rw[CB,UInt64.or_zero]
theorem L7(n:Nat):eJ (l' n).toUInt64 56=eJ (k' n) 56:=by
 unfold eJ;apply s9.1;simp only[gr,UInt8.toNat_toUInt64,nw];omega
theorem L8(bs:List UInt8)(t:Nat)(h:t<bs.length/8):rI bs (8*t) 8=rG ((bs.drop (8*t)).take 8) 8:=by
 rw[ES,L6,ET];refine rJ fun k a=>?_
 simp only[rH,b9 (show 8*t+k<bs.length by omega)];simp only[cR,l0,b9 a,List.getElem?_drop]
theorem L9(bs:List UInt8):rI bs (8*(bs.length/8)) 8=ga bs:=by
 rw[ES,L6];unfold ga;generalize h:bs.length-8*(bs.length/8)=r;have a:gLE (rH bs (8*(bs.length/8))) 8=gLE (rH bs (8*(bs.length/8))) 7 ||| eJ (k' bs.length) 56:=by
  show _ ||| eJ (rH bs (8*(bs.length/8)) 7).toUInt64 56=_
  rw[<-L7];simp only[rH,b0 (show¬ 8*(bs.length/8)+7<bs.length by omega),if_true]
 rw[a];congr 1;obtain⟨m,b⟩:∃m,7=r+m:=⟨7-r,ω⟩
 rw[b,CC,ET]
 .refine rJ fun k e=>?_
  simp only[rH,b9 (show 8*(bs.length/8)+k<bs.length by omega)];simp only[cR,List.getElem?_drop]
 .intro k e g;simp only[rH,b0 (show¬ 8*(bs.length/8)+k<bs.length by omega),b0 (show¬k=7 by omega)]
theorem CD(bs:List UInt8)(v:V4):∀t,t<=bs.length/8->vC bs v t=ER bs v t
 |0,_=>rfl
 |t+1,h=>by simp only[vC,ER];rw[CD bs v t ω,L8 bs t ω]
theorem Ma(a b:UInt64)(bs:List UInt8):L3 (vC bs (oo a b) (bs.length/8+1))=bA a b bs:=by
 unfold bA;simp only[vC];rw[CD bs _ _ (c7 _),L9]
theorem Mb(a b:UInt64)(bs:List UInt8)(n:Nat)(e:bs.length=n)(g:n<1000000000):FPure prog 161 [.w a,.w b,.p (.data 1 n (bs.map bt))] (.w (bA a b bs)):=by
 have:=Uq a b bs n e g;subst e
 rwa [Ma] at this
theorem fS(d:Int)(bs:List UInt8)(n:Nat)(a:bs.length=n)(b:n<1000000000)(g:0<=d)(h1:d<1000):FPure prog 91 [.i d,.p (.data 1 n (bs.map bt))] (.w (bA (k' d.toNat) 0 bs)):=by
 refine en func91 ntmps91 results91 [0,1,4] ?_;intro c J g Y Z;have e:i'.wrap d=((k' d.toNat).toNat:Int):=by rw[ao ω ω,<-lX _ ω];omega
 simp only[go_sem,J,e];apply aa Z (Mb (k' d.toNat) 0 bs n a b);simp only[go_sem]
theorem mQ(k:UInt64)(d:Int)(bs:List UInt8)(n:Nat)(a:bs.length=n)(b:n<1000000000)(g:0<=d)(h1:d<1000):FPure prog 138 [.w k,.i d,.p (.data 1 n (bs.map bt))] (.w (bA k (k' (d.toNat+1)) bs)):=by
 refine en func138 ntmps138 results138 [0,1,2,6] ?_;intro c J g Y Z;have e:i'.wrap d=d:=by rw[ao ω ω]
 have h:i'.wrap (1+d)=((k' (d.toNat+1)).toNat:Int):=by rw[ao ω ω,<-lX _ ω];omega
 simp only[go_sem,J,e,h];apply aa Z (Mb k (k' (d.toNat+1)) bs n a b);simp only[go_sem]
def aB(bs:List UInt8):Nat->UInt64
 |0=>0
 |k+1=>eJ (aB bs k) 8 ||| (bs.getD k 0).toUInt64
theorem nH(bs:List UInt8)(n:Nat)(g:bs.length=n)(j:8<=n)(b:n<1000000000):FPure prog 69 [.p (.data 1 n (bs.map bt))] (.w (aB bs 8)):=by
 refine en func69 ntmps69 results69 [0,2,3,4,12] ?_;intro c J e Y Z;simp only[go_sem];refine ay Y e [0,2,3,4,12] 8 (fun i=>⟨24,[(0,.p (.data 1 n (bs.map bt))),(3,.w (aB bs i)),(4,.i i)],[],0⟩) [] (fun i=>i) ?_ ?_
 .exact aiC
 .intro i k;generalize a:aB bs i=m;simp only[go_sem,J,dS,kZ m 8 ε,pA];split
  ·(try go_unwrap)
   split
   .refine⟨⟨ω,ω⟩,ω,ω,eh rfl ?_ trivial rfl rfl (c7 _)⟩;simp only[go_sem,aB,a];omega
   .omega
  .obtain rfl:i=8:=by omega
   subst a;rfl
theorem gO(ws:List UInt64)(n:Nat)(a:ws.length=n)(b:n<1000000):FPure prog 67 [.p (.data 1 n (ws.map wd))] (.p (.data 1 (8*n) ((an ws n).map bt))):=by
 refine en func67 ntmps67 results67 [0,2,3,4,5,9,13] ?_;intro c J h0 Y Z;simp only[go_sem];apply aX bP;refine ay Y h0 [0,2,3,4,5,9,13] n (fun i=>⟨29,[(0,.p (.data 1 n (ws.map wd))),(3,.sl 0 0 (8*i) 1),(4,.i i)],[(0,some ⟨bP,cb (an ws i)⟩)],1⟩) [] (fun i=>i) ?_ ?_
 .exact ahe
 .intro i e;simp only[go_sem,J];split
  .exact afv
  .obtain rfl:i=n:=by omega
   simp only[am,cD (Nat.le_of_eq (am ws i)),c7,and_self]
theorem PG(cs:List PV)(n:Nat)(e:cs.length=n)(h1:n≠0)(g:n<1000000000):Con prog 96 [.p (.data 1 n cs)] [] (.sl 0 0 n 1) [(0,some ⟨bP,cs.map .p⟩)]:=by
 refine ec 0 func96 ntmps96 results96 [0,2,4] ?_;intro c J a Y Z;have h:∀i,c.ρ0 i≠none->False:=fun i b=>by cases a i b
 simp only[go_sem,J];refine⟨h1,⟨ω,ω⟩,lW [1] rfl ?_ ?_ rfl rfl (fun i b=>?_)⟩
 .simp only[go_sem]
 .simp only[go_sem];exact aL _ _ _ _
 .simp[liveK] at b;simp;omega
theorem PH(bs:List UInt8)(n:Nat)(a:bs.length=n)(h1:n≠0)(b:n<1000000000):Con prog 96 [.p (.data 1 n (bs.map bt))] [] (.sl 0 0 n 1) [(0,some ⟨bP,cb bs⟩)] :=
 PG (bs.map bt) n (by simpa using a) h1 b
theorem jf(l:List UInt8):(⟨l.toArray⟩:ByteArray).toList=l:=by
 rw[ByteArray.toList_eq]
theorem tM(xs ys:List UInt8)(m n:Nat):FPure prog 143 [.p (.data 1 m (xs.map bt)),.p (.data 1 n (ys.map bt))] (.b (xs==ys)):=by
 refine en func143 ntmps143 results143 [0,1,4] ?_;intro c J a Y Z;simp only[go_sem,J,bS,strOf,bL,jf]
theorem Mc(m:Nat)(h:m<1000000000):Con prog 313 [.p (.v (.slice none 0 0)),.i m] [] (.sl 0 0 0 1) [(0,some ⟨bP,[]⟩)]:=by
 refine ec 0 func313 ntmps313 results313 [0,1,4,6,16] ?_;intro c J b Y Z;have j:∀i,c.ρ0 i≠none->False:=fun i a=>by cases b i a
 have e:h'.wrap (0-0)=0:=rfl;have g:h'.wrap ((m:Int)-0)=m:=by rw[ab ω ω];omega
 simp only[go_sem,J,e,g];split
 .omega
 .split
  .refine⟨⟨ω,ω,ω⟩,ω,lW [0] rfl ?_ ?_ rfl rfl (fun i a=>?_)⟩
   .simp only[go_sem]
   .simp only[go_sem]
   .simp[liveK] at a;simp;omega
  .refine NS bP [0] rfl ?_ ?_ rfl rfl (fun i a=>?_)
   .simp only[go_sem,oc]
   .simp only[go_sem,oc]
   .simp[liveK] at a;simp;omega
def byP(b:List UInt8):PV := .data 1 b.length (b.map bt)
def byL(l:List (List UInt8)):List AV:=l.map fun b => .p (byP b)
theorem PI(l:List (List UInt8)):(byL l).length=l.length:=by simp[byL]
theorem qb(l:List (List UInt8))(b:List UInt8):byL l++[.p (.data 1 b.length (b.map bt))]=byL (l++[b]):=by simp[byL,byP]
theorem dK(h:bv)(S:List Nat)(σ:Nat->Nat)(l:List (List UInt8)):aj h S σ (byL l) (byL l):=by
 have:byL l=(l.map byP).map .p:=by simp[byL]
 rw[this];exact aL h S σ _
theorem vD(l:List (List UInt8)):iY (byL l):=by
 intro c a;obtain⟨x,_,rfl⟩:=o4.1 a;trivial
theorem tN(l:List (List UInt8)):byL l=(l.map byP).map .p:=by simp[byL]
theorem Md(l:List (List UInt8)):jN (byL l):=by rw[tN];exact aG _
theorem Me(l:List (List UInt8)):jO (byL l)=l.map byP:=by rw[tN,aJ]
theorem cF(T:List Nat)(l:List (List UInt8)):ak T (byL l):=by rw[tN];exact aM T _
theorem Mf(τ:Nat->Nat)(l:List (List UInt8)):eu τ (byL l)=byL l:=by rw[tN];exact cT τ _
theorem Mg(l:List (List UInt8))(n:Nat):(byL l).take n=byL (l.take n):=by simp[byL]
theorem Mh(id:Nat)(b:Blk)(l:List (List UInt8)):fJ id b (byL l)=byL l:=ej id b _ (vD l)
theorem IF(id:Nat)(b:Blk)(l:List (List UInt8)):eU id b (byL l):=dx id b _ (vD l)
theorem Mi(l:List (List UInt8))(i:Nat):ag (.data 1 0 []) ((byL l).drop i) = .p (byP (l.getD i [])):=by
 induction l generalizing i with
 |nil=>simp[ag,byP,byL]
 |cons b r a=>cases i with
  |zero=>simp[ag,byL]
  |succ i=>simpa[byL] using a i
theorem PJ(l:List (List UInt8))(i:Nat)(b:List UInt8):(byL l).set i (.p (.data 1 b.length (b.map bt)))=byL (l.set i b):=by simp[byL,byP,List.map_set]
attribute [go_sem] Mi Mh IF PI qb vD Md Me Mg Mf
def oS(l:List (List UInt8))(i:Nat):List UInt8:=(l.take i).flatten
theorem bC(l:List (List UInt8))(i:Nat):gE (.data 1 0 []) ((l.map byP).drop i)=byP (l.getD i []):=by
 induction l generalizing i with
 |nil=>simp[gE,byP]
 |cons b r a=>cases i with
  |zero=>simp[gE]
  |succ i=>simpa using a i
theorem ye(l:List (List UInt8))(i:Nat)(h:i<l.length):oS l (i+1)=oS l i++l.getD i []:=by
 unfold oS;rw[s8 h,g'];exact agO
theorem nI(l:List (List UInt8))(i:Nat):(oS l i).length<=l.flatten.length:=by
 unfold oS
 conv=>rhs;rw[<-List.take_append_drop i l]
 simp only[g',c9];omega
def ajy:List Nat:=[0,2,3,5,6,8,9,10,11,12,20,25,26,27,28]
attribute[go_sem]ajy
theorem Mj(l:List (List UInt8))(n:Nat)(k:l.length=n)(m:l.flatten.length<1000000000)(g:n<1000000000):FPure prog 227 [.p (.data 1 n (l.map byP))] (.p (.data 1 l.flatten.length (l.flatten.map bt))):=by
 refine en func227 ntmps227 results227 ajy ?_;intro c J e Y Z;simp only[go_sem,J];have a:oS l n=l.flatten:=by unfold oS;rw[cD ω]
 refine ay Y e ajy n (fun i=>⟨36,[(0,.p (.data 1 n (l.map byP))),(3,.i ((oS l i).length:Int)),(9,.p (.data 1 n (l.map byP))),(10,.i n),(11,.i i)],[],0⟩) [] (fun i=>i) ?_ ?_
 .refine⟨rfl,?_,trivial,rfl,rfl,trivial,fun i h=>h⟩;simp only[go_sem];simp[oS]
 .intro i o;simp only[go_sem,J,bC,byP];split
  .have hs:=ye l i ω;have b:=nI l (i+1);rw[hs,c9] at b
   (try go_unwrap)
   refine⟨⟨ω,ω⟩,ω,?_⟩;rw[b0 ω];refine⟨ω,eh rfl ?_ trivial rfl rfl (c7 _)⟩;simp only[go_sem,hs];omega
  .obtain rfl:i=n:=by omega
   first|refine wF Y (ks:=ajy) (n:=2000) 1 (by rw[J];exact Mc (oS l i).length (by have:=nI l i;omega)) rfl rfl (by simp[ax,keys]) (by simp only[bV,ak,and_self]) ?_|refine wG Y (ks:=ajy) (n:=2000) 1 (by rw[J];exact Mc (oS l i).length (by have:=nI l i;omega)) rfl rfl (by simp[ax,ak,keys]) (by simp only[bV,ak,aM,cm,cF,and_self]) ?_
   simp only[go_sem,J];refine ay Y e ajy i (fun j=>⟨36,[(6,.sl 0 0 (oS l j).length 1),(25,.p (.data 1 i (l.map byP))),(26,.i i),(27,.i j)],[(0,some ⟨bP,cb (oS l j)⟩)],1⟩) [] (fun i=>i) ?_ ?_
   .refine⟨rfl,?_,?_,rfl,rfl,trivial,fun i h=>h⟩
    .simp only[go_sem];simp[oS]
    .simp only[go_sem];simp[oS,cb,aj]
   .intro j q;simp only[go_sem,J,bC,byP,dl,dX];split
    .have hs:=ye l j ω;have b:=nI l (j+1);rw[hs,c9] at b
     (try go_unwrap)
     refine⟨⟨ω,ω⟩,ω,⟨ω,ω⟩,ω,aA [1] rfl ?_ ?_ rfl rfl (c7 _)⟩
     .simp only[go_sem,hs];omega
     .simp only[go_sem,hs];exact aC _ _ _ _
    .obtain rfl:j=i:=by omega
     simp only[a];exact⟨c7 _,trivial,by rw[cD (c7 _)]⟩
def cu(ps:Int)(n:Nat):Int :=
 if ps<512\/8192<ps then 9 else if n=0\/n % ps.toNat≠0\/8<n/ps.toNat then 4 else 0
theorem qc(n:Nat)(ps:Int)(h:0<ps):(n:Int).tdiv ps=((n/ps.toNat:Nat):Int):=by
 obtain⟨p,rfl⟩:=i0 (Int.le_of_lt h);rw[Int.tdiv_eq_ediv_of_nonneg ω];simp
theorem CE(n:Nat)(ps:Int)(h:0<ps):(n:Int).tmod ps=((n % ps.toNat:Nat):Int):=by
 obtain⟨p,rfl⟩:=i0 (Int.le_of_lt h);rw[Int.tmod_eq_emod_of_nonneg ω];simp
theorem CF(ps:Int):FPure prog 173 [.i ps] (.b (decide (512<=ps/\ps<=8192))):=by
 refine en func173 ntmps173 results173 [0,2] ?_;intro c J a Y Z;simp only[go_sem];split<;>simp<;>omega
theorem oT(ps:Int)(n:Nat)(bs:List PV)(a:n<1000000000):FPure prog 249 [.agg [.i ps,.p (.data 1 n bs)]] (.i (cu ps n)):=by
 refine en func249 ntmps249 results249 [0,1,2,3,7,26] ?_;intro c J b Y Z;simp only[go_sem,J];apply aa Z (CF ps);simp only[go_sem,J];unfold cu;split
 .rw[b9 ω]
 .have e:512<=ps/\ps<=8192:=ω;rw[b0 (show¬(ps<512\/8192<ps) by omega)];rw[CE n ps ω,qc n ps ω];have g:n/ps.toNat<=n:=Nat.div_le_self _ _;generalize n/ps.toNat=d at *;generalize n % ps.toNat=r at *
  (try go_unwrap)
  split
  .refine⟨ω,?_⟩;split
   .refine⟨ω,?_⟩;split
    .rw[b9 ω]
    .rw[b0 ω]
   .rw[b9 ω]
  .rw[b9 ω]
theorem gd{ps:Int}{n:Nat}(h:cu ps n=0):∃p k:Nat,ps=p/\512<=p/\p<=8192/\n=p*k/\1<=k/\k<=8:=by
 unfold cu at h;split at h
 .cases h
 .split at h
  .cases h
  .obtain⟨p,rfl⟩:=i0 (show 0<=ps by omega);have h2:¬(n=0\/n % p≠0\/8<n/p):=by assumption
   have b:p*(n/p)+n % p=n:=Nat.div_add_mod n p;refine⟨p,n/p,rfl,ω,ω,ω,?_,ω⟩;rcases Nat.eq_zero_or_pos (n/p) with a|a
   .rw[a] at b;omega
   .exact a
theorem qd(p k:Nat)(h1:512<=p)(h2:p<=8192)(a:1<=k)(g:k<=8):cu p (p*k)=0:=by
 unfold cu;rw[b0 ω,b0];have b:p*k % p=0:=Nat.mul_mod_right p k;have e:p*k/p=k:=n' k ω;have h:1*1<=p*k:=Nat.mul_le_mul ω a;simp only[h5,b,e];omega
theorem CG(p k n:Nat)(page:Int)(cs:List PV)(h1:1<=p)(a:n=p*k)(g:n<1000000000):FPure prog 398 [.agg [.i p,.p (.data 1 n cs)],.i page] (.b (decide (0<=page/\page<k))):=by
 refine en func398 ntmps398 results398 [0,1,2,4] ?_;intro c J h Y Z;have e:(n:Int).tdiv p=k:=by rw[qc n p ω,a];rw[h5,n' k ω]
 have j:k<=n:=by rw[a];exact Nat.le_mul_of_pos_left k ω
 simp only[go_sem,J,e];rw[ab ω ω];split
 .refine⟨ω,?_⟩;simp;omega
 .simp;omega
def eg(ch:Nat->UInt8->UInt8)(bs:List UInt8)(at_:Nat):Nat->List UInt8
 |0=>bs
 |i+1=>(eg ch bs at_ i).set (at_+i) (ch i ((eg ch bs at_ i).getD (at_+i) 0))
theorem ge(ch:Nat->UInt8->UInt8)(bs:List UInt8)(a i:Nat):(eg ch bs a i).length=bs.length:=by
 induction i with
 |zero=>rfl
 |succ i b=>simp[eg,b]
def bZ(n:Nat)(budget:Int):Nat:=if 0<=budget/\budget<n then budget.toNat else n
def dL(n:Nat)(budget:Int):Int:=if 0<=budget/\budget<n then 0 else if 0<=budget then budget-n else budget
def eB(n:Nat)(budget:Int):Int:=if 0<=budget/\budget<n then 16 else 0
def ajx:List Nat:=[0,1,2,3,4,5,10,11,12,13,14,15,16,17,24,39,40,41,42,55]
attribute[go_sem]ajx
theorem GE(ps:Int)(bs:List UInt8)(n a m:Nat)(budget:Int)(g:AV)(k:FuncId)(cap:List AV)(hg:∀l,uw l g = .call k (l++cap))(ch:Nat->UInt8->UInt8)(j:ax [] g)(u:bs.length=n)(h1:1<=n)(ha:a+m<=n)(z:n<1000000000)
 (D : -9223372036854775808<=budget/\budget<=9223372036854775807)
 (o:∀i x,i<m->FPure prog k (.i i :: .y x::cap) (.y (ch i x))) :
 FPure prog 399 [.agg [.i ps,.p (.data 1 n (bs.map bt))],.i a,.i m,.i budget,g] (.tup [.agg [.i ps,.p (.data 1 n ((eg ch bs a (bZ m budget)).map bt))],.i (dL m budget),.i (eB m budget)]):=by
 refine tZ ID func399 rfl π ntmps399 results399 η (by simp[ak,ax, *]) ajx ?_;intro c J A Y;simp only[go_sem,J];obtain⟨q,r⟩:∃q,bZ m budget=q:=⟨_,rfl⟩
 obtain⟨e,s⟩:∃e,eB m budget=e:=⟨_,rfl⟩;obtain⟨w,b⟩:∃w,dL m budget=w:=⟨_,rfl⟩
 rw[r,s,b] at Y;have B:q<=m:=by rw[<-r];unfold bZ;split<;>omega
 unfold bZ at r;unfold eB at s;unfold dL at b;split
 all_goals try split
 all_goals
  first
   |rw[b9 ⟨ω,ω⟩] at r s b
   |(rw[b0 ω] at r s b;first|rw[b9 ω] at b|rw[b0 ω] at b)
  refine wG Y (ks:=ajx) (n:=2000) 1 (by rw[J];exact PH bs n u ω z) rfl rfl (by simp[ax,keys]) (by simp only[bV,cm,and_self]) ?_;simp only[go_sem,J]
  (try go_unwrap)
  refine⟨π,⟨ω,ω,ω⟩,?_⟩;refine ay Y A ajx q (fun i=>⟨62,[(2,.i q),(3,.i budget),(4,g),(10,.ptr 1 0),(13,.i e),(14,.ptr 3 0),(15,.sl 2 a q 1),(39,.sl 2 a q 1),(40,.i q),(41,.i i)],[(3,some ⟨30,[.i ps,.sl 2 0 n 1]⟩),(2,some ⟨bP,cb (eg ch bs a i)⟩),(1,some ⟨30,[.i 0,.p (.v (.slice none 0 0))]⟩)],4⟩) [] (fun i=>i) ?_ ?_
  .refine⟨rfl,?_,?_,rfl,rfl,trivial,fun i h=>h⟩
   .simp only[go_sem,AV.sl.injEq];exact⟨ω,lV _ _ _ _ j,ω,ω,ω,ω⟩
   .simp only[go_sem,eg];exact aC _ _ _ _
  .intro i F;generalize t:eg ch bs a i=us;have C:us.length=n:=by rw[<-t,ge,u]
   simp only[go_sem,J,hg];split
   .refine⟨⟨ω,ω⟩,ω,?_⟩
    first|refine iD Y (ks:=ajx) (n:=2000) (by rw[J];exact o i _ ω) ?_|refine iE Y (ks:=ajx) (n:=2000) (by rw[J];exact o i _ ω) ?_
    simp only[go_sem,J]
    (try go_unwrap)
    refine⟨⟨ω,ω⟩,ω,ω,eh rfl ?_ ?_ rfl rfl (c7 _)⟩
    .simp only[go_sem];exact⟨lV _ _ _ _ j,ω⟩
    .simp only[go_sem,eg,t,NW];exact aC _ _ _ _
   .obtain rfl:i=q:=by omega
    rw[t,cD ω]
    (try go_unwrap)
    first
     |exact⟨ω,trivial,ω⟩
     |exact⟨ω,trivial⟩
theorem Mk(i:Int)(x:UInt8):FPure prog 400 [.i i,.y x] (.y 255):=by
 refine en func400 ntmps400 results400 [4] ?_;intro c J a Y Z;simp only[go_sem];rfl
theorem Ml(x y:UInt8):band .u8 (x.toNat:Int) (y.toNat:Int)=((x &&& y).toNat:Int):=by
 show j'.wrap (((BitVec.ofInt 8 (x.toNat:Int)) &&& (BitVec.ofInt 8 (y.toNat:Int))).toNat:Int)=_;have e:∀z:UInt8,BitVec.ofInt 8 (z.toNat:Int)=z.toBitVec:=fun z=>by
  rw[BitVec.ofInt_natCast];exact BitVec.eq_of_toNat_eq (by rw[BitVec.toNat_ofNat];exact ie z.toBitVec.isLt)
 rw[e,e];have:=(x.toBitVec &&& y.toBitVec).isLt;rw[dh];show((x.toBitVec &&& y.toBitVec).toNat:Int) % 256=((x.toBitVec &&& y.toBitVec).toNat:Int);omega
def aN(b:List UInt8)(i:Nat)(x:UInt8):UInt8:=x &&& b.getD i 0
theorem EU(i m:Nat)(x:UInt8)(b:List UInt8)(a:b.length=m)(e:i<m):FPure prog 403 [.i i,.y x,.cp [.data 1 m (b.map bt)]] (.y (aN b i x)):=by
 refine en func403 ntmps403 results403 [0,1,2,5] ?_;intro c J g Y Z;simp only[go_sem,J,Ml];exact⟨⟨ω,ω⟩,ω,rfl⟩
structure Fl where
 ps:Int
 bs:List UInt8
structure FR where
 f:Fl
 left:Int
 err:Int
def PK(f:Fl):AV := .agg [.i f.ps,.p (.data 1 f.bs.length (f.bs.map bt))]
def CH(r:FR):AV := .tup [PK r.f,.i r.left,.i r.err]
attribute [go_sem] PK CH
def aE(f:Fl)(a m:Nat)(budget:Int)(ch:Nat->UInt8->UInt8):FR:=⟨⟨f.ps,eg ch f.bs a (bZ m budget)⟩,dL m budget,eB m budget⟩
def iM(e:Int):FR:=⟨⟨0,[]⟩,0,e⟩
def gb(f:Fl)(page at_ m:Int):Int :=
 if cu f.ps f.bs.length≠0 then cu f.ps f.bs.length
 else if page<0\/(f.bs.length/f.ps.toNat:Nat)<=page\/at_<0\/f.ps-m<at_ then 9 else 0
def dM(f:Fl)(page at_:Int)(b:List UInt8)(budget:Int):FR :=
 if gb f page at_ b.length≠0 then iM (gb f page at_ b.length)
 else aE f (page*f.ps+at_).toNat b.length budget (aN b)
def eR(f:Fl)(page:Int)(budget:Int):FR :=
 if gb f page 0 0≠0 then iM (gb f page 0 0)
 else aE f (page*f.ps).toNat f.ps.toNat budget (fun _ _=>255)
def i64(n:Int):Prop := -9223372036854775808<=n/\n<=9223372036854775807
theorem jg{f:Fl}(page a m:Int)(h:cu f.ps f.bs.length≠0):gb f page a m=cu f.ps f.bs.length:=by
 unfold gb;rw[b9 h]
theorem mR{p k:Nat}{bs:List UInt8}{page a m:Int}(h1:512<=p)(h2:p<=8192)(b:1<=k)(e:k<=8)(g:bs.length=p*k)(h:0<=page/\page<k/\0<=a/\a<=p-m):gb ⟨p,bs⟩ page a m=0:=by
 have hv:=qd p k h1 h2 b e;unfold gb;simp only[g,hv,ne_eq,not_true_eq_false,if_false,h5,n' k (show 0<p by omega)];rw[b0 ω]
theorem kO{p k:Nat}{bs:List UInt8}{page a m:Int}(h1:512<=p)(h2:p<=8192)(b:1<=k)(e:k<=8)(g:bs.length=p*k)(h:¬(0<=page/\page<k/\0<=a/\a<=p-m)):gb ⟨p,bs⟩ page a m=9:=by
 have hv:=qd p k h1 h2 b e;unfold gb;simp only[g,hv,ne_eq,not_true_eq_false,if_false,h5,n' k (show 0<p by omega)];rw[b9 ω]
theorem oU{f:Fl}{page a:Int}{b:List UInt8}{m:Nat}{budget e:Int}(g:b.length=m)(h:gb f page a m=e)(j:e≠0):dM f page a b budget=iM e:=by
 subst g;unfold dM;rw[h,b9 j]
theorem qe{f:Fl}{page a:Int}{b:List UInt8}{m:Nat}{budget:Int}(e:b.length=m)(h:gb f page a m=0):dM f page a b budget=aE f (page*f.ps+a).toNat m budget (aN b):=by
 subst e;unfold dM;rw[h,b0 ε]
theorem mS{f:Fl}{page budget e:Int}(h:gb f page 0 0=e)(a:e≠0):eR f page budget=iM e:=by
 unfold eR;rw[h,b9 a]
theorem rK{f:Fl}{page budget:Int}(h:gb f page 0 0=0):eR f page budget=aE f (page*f.ps).toNat f.ps.toNat budget (fun _ _=>255):=by
 unfold eR;rw[h,b0 ε]
theorem j3(q p:Nat)(h:q*p<1000000000000):h'.wrap ((q:Int)*(p:Int))=((q*p:Nat):Int):=by
 have e:(q:Int)*(p:Int)=((q*p:Nat):Int):=η;rw[e,ab ω ω]
theorem fT{q p k:Nat}(h:q<k):q*p+p<=p*k:=by
 have:(q+1)*p<=k*p:=iy p ω;rw[Nat.mul_comm p k];rw[Nat.add_mul] at this;omega
theorem IG(ps:Int)(bs:List UInt8)(n:Nat)(page g:Int)(b:List UInt8)(m:Nat)(budget:Int)(j:bs.length=n)(u:n<1000000000)(t:b.length=m)(z:m<1000000000)(A:i64 budget) :
 FPure prog 402 [.agg [.i ps,.p (.data 1 n (bs.map bt))],.i page,.i g,.p (.data 1 m (b.map bt)),.i budget] (CH (dM ⟨ps,bs⟩ page g b budget)):=by
 refine en func402 ntmps402 results402 [0,1,2,3,4,5,8,10,11,12,13,17,36] ?_;intro c J I Y Z;simp only[go_sem,J];apply aa Z (oT ps n _ u);simp only[go_sem,J];split
 .rename_i h;have hv:cu ps bs.length≠0:=by rw[j];exact h
  rw[oU t (jg (f:=⟨ps,bs⟩) page g m hv) hv];simp only[iM,km,a',and_self,j]
 .rename_i h;have h:cu ps n=0:=ω;obtain⟨p,k,rfl,l,o,rfl,r,s⟩:=gd h;apply aa Z (CG p k _ page _ ω rfl u);simp only[go_sem,J]
  (try go_unwrap)
  have fail:¬(0<=page/\page<k/\0<=g/\g<=p-m)->dM ⟨p,bs⟩ page g b budget=iM 9:=fun B=>oU t (kO l o r s j B) ε
  split
  .split
   .split
    .rw[fail ω];exact ahf
    .have y:=qe (budget:=budget) t (mR (m:=m) l o r s j (by omega:0<=page/\page<k/\0<=g/\g<=p-m));obtain⟨q,rfl⟩:=i0 (show 0<=page by omega);obtain⟨a,rfl⟩:=i0 (show 0<=g by omega);have C:=fT (p:=p) (show q<k by omega);have w:((q:Int)*(p:Int)+a).toNat=q*p+a:=by(have e:(q:Int)*(p:Int)=((q*p:Nat):Int):=by simp);rw[e];omega
     have D:h'.wrap (((q*p:Nat):Int)+(a:Int))=((q*p+a:Nat):Int):=by rw[ab ω ω];simp
     rw[j3 q p ω,D];simp only[w] at y;refine gU Y (ks:=[0,1,2,3,4,5,8,10,11,12,13,17,36]) (n:=2000) 1 ?_ ?_
     .simp only[go_sem]
     .simp only[go_sem];apply aa Z (GE p bs _ (q*p+a) m budget _ 403 _ (fun _=>rfl) (aN b) (by simp[ak,ax]) j ω ω u A (fun i x F=>EU i m x b t F));simp only[go_sem,J];simp only[y,aE,ge,j,and_self]
   .rw[fail ω];exact ahf
  .rw[fail ω];exact ahf
theorem PM(ps:Int)(bs:List UInt8)(n:Nat)(page budget:Int)(a:bs.length=n)(o:n<1000000000)(s:i64 budget) :
 FPure prog 397 [.agg [.i ps,.p (.data 1 n (bs.map bt))],.i page,.i budget] (CH (eR ⟨ps,bs⟩ page budget)):=by
 refine en func397 ntmps397 results397 [0,1,2,3,6,7,8,9,13,19] ?_;intro c J w Y Z;simp only[go_sem,J];apply aa Z (oT ps n _ o);simp only[go_sem,J];split
 .rename_i h;have hv:cu ps bs.length≠0:=by rw[a];exact h
  rw[mS (jg (f:=⟨ps,bs⟩) page 0 0 hv) hv];simp only[iM,km,a',and_self,a]
 .rename_i h;have h:cu ps n=0:=ω;obtain⟨p,k,rfl,b,g,rfl,j,m⟩:=gd h;apply aa Z (CG p k _ page _ ω rfl o);simp only[go_sem,J];split
  .rw[mS (kO b g j m a ω) ε];exact ahf
  .have t:=rK (budget:=budget) (mR b g j m a (by omega:0<=page/\page<k/\0<=(0:Int)/\(0:Int)<=p-0));obtain⟨q,rfl⟩:=i0 (show 0<=page by omega);have u:=fT (p:=p) (show q<k by omega);rw[j3 q p ω];apply aa Z (GE p bs _ (q*p) p budget _ 400 [] (fun l=>by simp[uw]) (fun _ _=>255) (by simp[ax]) a ω ω o s (fun i x y=>Mk i x));have r:((q:Int)*(p:Int)).toNat=q*p:=by(have e:(q:Int)*(p:Int)=((q*p:Nat):Int):=by simp);rw[e];omega
   simp only[go_sem,J];simp only[t,aE,ge,a,and_self,r,h5]
def headM(g:UInt64):List UInt8:=an [g,fu (bA 7 0 (an [g] 1)) 1] 2
def rL(g:UInt64)(b:List UInt8):List UInt8:=an [fu (bA g 8 b) 1] 1
def bQ(g:UInt64)(b:List UInt8):List UInt8:=l' (b.length/256)::l' b.length::(b++rL g b)
theorem cX(g:UInt64):(headM g).length=16:=am _ _
theorem mT(g:UInt64)(b:List UInt8):(rL g b).length=8:=am _ _
theorem cj(g:UInt64)(b:List UInt8):(bQ g b).length=b.length+10:=by simp[bQ,mT]
theorem qf(x:UInt64):FPure prog 84 [.p (.data 1 1 [wd x])] (.p (.data 1 8 ((an [x] 1).map bt))):=GC [x] 1 rfl ε
theorem Mm(x y:UInt64):FPure prog 84 [.p (.data 1 2 [wd x,wd y])] (.p (.data 1 16 ((an [x,y] 2).map bt))):=GC [x,y] 2 rfl ε
theorem bI(x:UInt64):FPure prog 67 [.p (.data 1 1 [wd x])] (.p (.data 1 8 ((an [x] 1).map bt))):=gO [x] 1 rfl ε
theorem II(x y:UInt64):FPure prog 67 [.p (.data 1 2 [wd x,wd y])] (.p (.data 1 16 ((an [x,y] 2).map bt))):=gO [x,y] 2 rfl ε
theorem Aj(x:UInt64):ishr .u64 (x.toNat:Int) 1=((fu x 1).toNat:Int):=oz x 1 ε
theorem vE(g:UInt64)(n:Int)(hg:i'.wrap n=g.toNat):FPure prog 178 [.i n] (.p (.data 1 16 ((headM g).map bt))):=by
 refine en func178 ntmps178 results178 [0,2,3] ?_;intro c J a Y Z;simp only[go_sem,J,hg];refine x_f Z (qf g) ?_;simp only[go_sem];apply aa Z (Up 7 (an [g] 1) 8 (am _ _) ε ε ε);simp only[go_sem,J,Aj];refine x_f Z (Mm g _) ?_;simp only[go_sem];rfl
theorem rM(g:UInt64)(n:Int)(hg:i'.wrap n=g.toNat):FPure prog 240 [.i n] (.p (.data 1 16 ((headM g).map bt))):=by
 refine en func240 ntmps240 results240 [0,2] ?_;intro c J a Y Z;simp only[go_sem,J,hg];refine x_f Z (bI g) ?_;simp only[go_sem];apply aa Z (fS 7 (an [g] 1) 8 (am _ _) ε ε ε);simp only[go_sem,J,Aj];refine x_f Z (II g _) ?_;simp only[go_sem];rfl
theorem GF(g:UInt64)(n:Int)(hg:i'.wrap n=g.toNat)(b:List UInt8)(m:Nat)(a:b.length=m)(e:m<1000000000):FPure prog 250 [.i n,.p (.data 1 m (b.map bt))] (.p (.data 1 8 ((rL g b).map bt))):=by
 refine en func250 ntmps250 results250 [0,1,4] ?_;intro c J h Y Z;simp only[go_sem,J,hg];apply aa Z (L4 g 7 b m a e ε ε);simp only[go_sem,J,Aj];refine x_f Z (qf _) ?_;simp only[go_sem];rfl
theorem GG(m:Nat)(h:m<1000000000):j'.wrap (ishr .i64 (m:Int) 8)=((l' (m/256)).toNat:Int):=by
 have e:ishr .i64 (m:Int) 8=((m/256:Nat):Int):=by
  show Int.fdiv (m:Int) (2^8)=_;rw[Int.fdiv_eq_ediv_of_nonneg _ ε];simp
 rw[e,j2]
theorem IJ(x y:UInt8)(b d:List UInt8)(m k:Nat)(a:b.length=m)(g:d.length=k)(h:m+k<100000000) :
 FPure prog 227 [.p (.data 1 3 [.data 1 2 [bt x,bt y],.data 1 m (b.map bt),.data 1 k (d.map bt)])] (.p (.data 1 (m+k+2) ((x::y::(b++d)).map bt))):=by
 have:=Mj [[x,y],b,d] 3 rfl ζ ε;simp only[byP,hX,a',ew,km,a,g,List.flatten_cons,List.flatten_nil,b',c9,List.cons_append,List.nil_append] at this;have e:0+1+1+(m+k)=m+k+2:=ω;have j:m+k+1+1=m+k+2:=ω;simpa only[e,j,hX] using this
theorem CI(g:UInt64)(n:Int)(hg:i'.wrap n=g.toNat)(b:List UInt8)(m:Nat)(a:b.length=m)(e:m<10000000):FPure prog 181 [.i n,.p (.data 1 m (b.map bt))] (.p (.data 1 (m+10) ((bQ g b).map bt))):=by
 refine en func181 ntmps181 results181 [0,1,4] ?_;intro c J h Y Z;simp only[go_sem,J,GG m ω,j2];apply aa Z (GF g n hg b m a ω);simp only[go_sem,J];refine gU Y (ks:=[0,1,4]) (n:=2000) 0 ?_ ?_
 .simp only[go_sem]
 .simp only[go_sem];refine x_f Z (IJ (l' (m/256)) (l' m) b (rL g b) m 8 a (mT _ _) ω) ?_;simp only[go_sem];simp only[bQ,a,hX,bt]
theorem Mn(p k q n:Nat)(bs:List UInt8)(g:n=p*k)(h:n<1000000000)(a:q<k)(j:k<=8)(l:p<=10000):FPure prog 246 [.agg [.i p,.p (.data 1 n (bs.map bt))],.i q] (.p (.data 1 p (((bs.drop (q*p)).take p).map bt))):=by
 have b:=fT (p:=p) a;have e:((q:Int)+1)*(p:Int)=((q*p+p:Nat):Int):=by simp[Int.add_mul]
 refine en func246 ntmps246 results246 [0,1,2,4,5,6] ?_;intro c J m Y Z;simp only[go_sem,J];rw[ab (n:=(q:Int)+1) ω ω];simp only[j3 q p ω,e,ab (n:=((q*p+p:Nat):Int)) ω ω,h5,ms,and_true];exact⟨π,ω⟩
def bz(page:List UInt8):Int :=
 if(aB page 8).toNat<1\/1099511627776<(aB page 8).toNat\/page.take 16≠headM (aB page 8) then 0 else((aB page 8).toNat:Int)
theorem sQ(x:UInt64):i'.wrap (x.toNat:Int)=x.toNat:=ao ω (by have:=x.toNat_lt;omega)
theorem gt(l:List UInt8)(m:Nat):∀k,k<=m->aB (l.take m) k=aB l k
 |0,_=>rfl
 |k+1,h=>by
  simp only[aB];rw[gt l m k ω];congr 2;simp only[cR,l0,b9 (show k<m by omega)]
theorem mU(page:List UInt8)(n:Nat)(j:page.length=n)(b:16<=n)(k:n<1000000000):FPure prog 245 [.p (.data 1 n (page.map bt))] (.i (bz page)):=by
 refine en func245 ntmps245 results245 [0,2,3,5,7,8,9,10,33] ?_;intro c J e Y Z;simp only[go_sem,J];refine⟨ω,?_⟩;refine ay Y e [0,2,3,5,7,8,9,10,33] 8 (fun i=>⟨36,[(0,.p (.data 1 n (page.map bt))),(3,.w (aB page i)),(7,.p (.data 1 8 ((page.take 8).map bt))),(8,.i 8),(9,.i i)],[],0⟩) [] (fun i=>i) ?_ ?_
 .refine akg ?_;simp only[go_sem,aB];simp
 .intro i l;generalize a:aB page i=m;simp only[go_sem,J,dS,kZ m 8 ε,pA];split
  ·(try go_unwrap)
   refine⟨⟨ω,ω⟩,ω,ω,eh rfl ?_ trivial rfl rfl (c7 _)⟩;simp only[go_sem,aB,a];have:(page.take 8).getD i 0=page.getD i 0:=by
    simp only[cR,l0,b9 (show i<8 by omega)]
   rw[this];exact⟨rfl,ω⟩
  .obtain rfl:i=8:=by omega
   unfold bz;rw[a];have g:=m.toNat_lt;split
   .split
    .refine⟨ω,?_⟩;rw[ab ω ω];apply aa Z (vE m _ (sQ m));simp only[go_sem];apply aa Z (tM (page.take 16) (headM m) 16 16);refine wi ?_;unfold bz;rw[a];split
     .rw[b9 (.inr (.inr ‹_›))]
     .rw[b0 (by rintro(h|h|h)<;>first|omega|contradiction),ab ω ω]
    .exact⟨π,by rw[b9 ω]⟩
   .exact⟨π,by rw[b9 ω]⟩
def aF(page:List UInt8)(a:Nat):Nat:=(page.getD a 0).toNat*256+(page.getD (a+1) 0).toNat
def cI(page:List UInt8)(g:UInt64)(a:Nat):List UInt8 :=
 if page.length<a+10 then[] else
 if aF page a<1\/256<aF page a\/page.length<a+10+aF page a then[] else
 if(page.drop (a+2+aF page a)).take 8≠rL g ((page.drop (a+2)).take (aF page a)) then[] else
 (page.drop (a+2)).take (aF page a)
theorem oV(a b:Nat)(ha:a<256)(g:b<256):bor .i64 (iF .i64 (a:Int) 8) (b:Int)=((a*256+b:Nat):Int):=by
 have e:iF .i64 (a:Int) 8=((a*256:Nat):Int):=by
  show h'.wrap ((a:Int)*2^8)=_;rw[ab ω ω];simp
 rw[e];exact agi
theorem yf(x:UInt8):h'.wrap (x.toNat:Int)=(x.toNat:Int):=by
 have:=x.toNat_lt;exact ab ω ω
theorem IK(page:List UInt8)(n:Nat)(s:page.length=n)(t:n<1000000)(g:UInt64)(b:Int)(hg:i'.wrap b=g.toNat)(a:Nat)(ha:a<=n) :
 FPure prog 322 [.p (.data 1 n (page.map bt)),.i b,.i a] (.p (.data 1 (cI page g a).length ((cI page g a).map bt))):=by
 refine en func322 ntmps322 results322 [0,1,2,6,7,8,9,10,15,43,64] ?_;intro c J u Y Z;have h1:=(page.getD a 0).toNat_lt;have h2:=(page.getD (a+1) 0).toNat_lt;have h:h'.wrap ((a:Int)+1)=((a+1:Nat):Int):=by rw[ab ω ω];simp
 have j:h'.wrap ((n:Int)-(a:Int))=(n:Int)-(a:Int):=ab ω ω;generalize e:aF page a=q;have k:(page.getD a 0).toNat*256+(page.getD (a+1) 0).toNat=q:=e;have l:h'.wrap ((a:Int)+2)=((a+2:Nat):Int):=by rw[ab ω ω];simp
 have m:h'.wrap (((a+2:Nat):Int)+(q:Int))=((a+2+q:Nat):Int):=by rw[ab ω ω];simp
 have o:h'.wrap (((a+2+q:Nat):Int)+8)=((a+2+q+8:Nat):Int):=by rw[ab ω ω];simp
 have r:h'.wrap (10+(q:Int))=10+(q:Int):=ab ω ω;simp only[go_sem,J,h,j,yf,oV _ _ h1 h2,k,l,m,o,r,ms];obtain⟨R,hR⟩:∃R,cI page g a=R:=⟨_,rfl⟩
 rw[hR] at Y Z⊢;unfold cI at hR;rw[e] at hR;split
 .exact aik
 .rw[b0 ω] at hR;refine⟨⟨ω,ω⟩,ω,⟨ω,ω⟩,ω,π,?_⟩;split
  .split
   .split
    .exact aik
    .rw[b0 ω] at hR;refine⟨⟨ω,ω,ω⟩,⟨ω,ω,ω⟩,?_⟩;apply aa Z (GF g b hg ((page.drop (a+2)).take q) q ζ ω);simp only[go_sem];apply aa Z (tM _ _ 8 8);simp only[go_sem];refine⟨π,?_⟩;split
     .rw[b9 ‹_›] at hR;subst hR;exact⟨rfl,rfl⟩
     .rw[b0 ‹_›] at hR;subst hR;simp only[hV,kK,and_true];omega
   .exact aik
  .exact aik
theorem CJ(b:List UInt8)(n:Nat)(m:b.length=n)(q:n<1000000000):FPure prog 248 [.p (.data 1 n (b.map bt))] (.b (b.all (·==255))):=by
 refine en func248 ntmps248 results248 [0,2,4,5,6,7,8,12] ?_;intro c J o Y Z;simp only[go_sem,J];have g:∀i,i<n->(b.drop i).all (·==255)=(b.getD i 0==255&&(b.drop (i+1)).all (·==255)):=by
  intro i k;rw[hE ω,List.all_cons];simp[cR,m,k]
 obtain⟨R,l⟩:∃R,b.all (·==255)=R:=⟨_,rfl⟩;rw[l] at Y Z;refine bl Y o [0,2,4,5,6,7,8,12] (α:={i:Nat // i<=n/\(b.drop i).all (·==255)=R}) (fun i=>⟨14,[(5,.p (.data 1 n (b.map bt))),(6,.i n),(7,.i i.1)],[],0⟩) (fun i=>n-i.1) ⟨0,gi _,l⟩ [] (fun i=>i) ?_ ?_
 .exact aho
 .rintro⟨i,k,j⟩;simp only[go_sem,J];have a:∀x:UInt8,(x.toNat:Int)=255↔x=255:=fun x=>by rw[<-m'];simp;omega
  split
  .have e:=g i ω;rw[j] at e
   (try go_unwrap)
   refine⟨⟨ω,ω⟩,ω,?_⟩;simp only[a];split
   .rename_i h;rw[show(b.getD i 0==255)=false by simpa using h] at e;simp only[e,Bool.false_and]
   .rename_i h;have h:b.getD i 0=255:=χ;rw[h] at e;refine⟨⟨i+1,ω,by simpa using e.symm⟩,by show n-(i+1)<n-i;omega,eh rfl ?_ trivial rfl rfl (c7 _)⟩;simp only[go_sem];omega
  .obtain rfl:i=n:=by omega
   rw[l2 ω] at j;rw[<-j];rfl
def dq(page:List UInt8)(g:UInt64):Nat->Nat->List (List UInt8)×Nat
 |0,a=>([],a)
 |f+1,a=>if cI page g a=[] then([],a) else(cI page g a::(dq page g f (a+10+(cI page g a).length)).1,(dq page g f (a+10+(cI page g a).length)).2)
def du(page:List UInt8)(g:UInt64):List (List UInt8)×Nat:=dq page g page.length 16
theorem lK(page:List UInt8)(g:UInt64)(a:Nat)(h:cI page g a≠[]):a+10+(cI page g a).length<=page.length/\1<=(cI page g a).length/\(cI page g a).length<=256:=by
 unfold cI at h⊢;split at h
 .exact s5 rfl h
 .rename_i h1;rw[b0 h1];split at h
  .exact s5 rfl h
  .rename_i h2;rw[b0 h2];split at h
   .exact s5 rfl h
   .rename_i b;rw[b0 b];simp only[hV,kK];omega
abbrev iS:Nat:=28
theorem jE(page:List UInt8)(n:Nat)(s:page.length=n)(z:n<1000000)(t:16<=n)(g:UInt64)(r:Int)(hg:i'.wrap r=g.toNat) :
 Con prog 247 [.p (.data 1 n (page.map bt)),.i r] [] (.tup [.sl 0 0 (du page g).1.length 1,.i (du page g).2]) [(0,some ⟨iS,byL (du page g).1⟩)]:=by
 refine ec 0 func247 ntmps247 results247 [0,1,4,5,6,13] ?_;intro c J u Y Z;have A:∀i,c.ρ0 i≠none->False:=fun i w=>by cases u i w
 simp only[go_sem];generalize y:du page g=T at *;apply aX iS;refine bl Y A [0,1,4,5,6,13] (α:={x:Nat×Nat×List (List UInt8) // x.2.1<=n/\n<x.2.1+x.1/\x.2.2++(dq page g x.1 x.2.1).1=T.1/\(dq page g x.1 x.2.1).2=T.2/\x.2.2.length<=x.2.1})
  (fun x=>⟨25,[(0,.p (.data 1 n (page.map bt))),(1,.i r),(4,.sl 0 0 x.1.2.2.length 1),(5,.i x.1.2.1)],[(0,some ⟨iS,byL x.1.2.2⟩)],1⟩) (fun x=>x.1.1) ⟨(n,16,[]),t,by show n<16+n;omega,by show[]++(dq page g n 16).1=T.1;rw[<-y,<-s];rfl,by show(dq page g n 16).2=T.2;rw[<-y,<-s];rfl,η⟩ [] (fun i=>i) ?_ ?_
 .refine⟨rfl,?_,?_,rfl,rfl,trivial,fun i h=>h⟩
  .simp only[go_sem]
  .simp only[go_sem,byL]
 .rintro⟨⟨f,a,l⟩,h1,h2,k,m,B⟩;simp only at h1 h2 k m B;simp only[go_sem];apply aa Z (IK page n s z g r hg a h1);simp only[go_sem,J];obtain⟨b,j⟩:∃b,cI page g a=b:=⟨_,rfl⟩
  rw[j];have o:=lK page g a;rw[j] at o;obtain⟨f,rfl⟩:∃f',f=f'+1:=⟨f-1,ω⟩
  simp only[dq,j] at k m;split
  .obtain rfl:b=[]:=fo ω;simp only[if_true,b'] at k m;subst k;rw[<-m];refine lW [0] rfl ?_ ?_ rfl rfl (fun i w=>?_)
   .simp only[go_sem]
   .exact aiT
   .simp[liveK] at w;simp;omega
  .have q:b≠[]:=fun e=>by subst e;simp at *
   obtain⟨F,I,K⟩:=o q;rw[b0 q] at k m;have C:h'.wrap (10+(b.length:Int))=10+(b.length:Int):=ab ω ω;have D:h'.wrap ((a:Int)+(10+(b.length:Int)))=((a+10+b.length:Nat):Int):=by rw[ab ω ω];omega
   rw[C,D];refine⟨⟨ω,ω⟩,⟨(f,a+10+b.length,l++[b]),by show a+10+b.length<=n;omega,by show n<a+10+b.length+f;omega,by simpa using k,by simpa using m,ζ⟩,by show f<f+1;omega,aA [2] rfl ?_ ?_ rfl rfl (c7 _)⟩
   .simp only[go_sem]
   .exact aiT
theorem Ak(g:UInt64)(n:Int)(hg:i'.wrap n=g.toNat)(b:List UInt8)(m:Nat)(a:b.length=m)(h:m<10000000):FPure prog 238 [.i n,.p (.data 1 m (b.map bt))] (.p (.data 1 (m+10) ((bQ g b).map bt))):=by
 refine en func238 ntmps238 results238 [0,1,4,5] ?_;intro c J j Y Z;simp only[go_sem,J,GG m ω,j2,hg];refine⟨ω,?_⟩;apply aa Z (mQ g 7 b m a ω ε ε);simp only[go_sem,J,Aj];refine x_f Z (bI _) ?_;simp only[go_sem,J,dl,dX];have e:an [fu (bA g (k' 8) b) 1] 1=rL g b:=rfl;rw[e];have k:(b++rL g b).length=m+8:=by simp[mT,a]
 rw[cD ω];refine⟨⟨ω,ω,ω⟩,by simp only[mT];omega,ω,?_⟩;simp only[bQ,a,hX,bt]
theorem Al(p k q n:Nat)(bs:List UInt8)(x:n=p*k)(y:bs.length=n)(z:n<1000000000)(j:q<k)(A:k<=8)(B:512<=p)(l:p<=10000) :
 FPure prog 255 [.agg [.i p,.p (.data 1 n (bs.map bt))],.i q] (.i (bz ((bs.drop (q*p)).take p))):=by
 have o:=fT (p:=p) j;have r:h'.wrap (((q*p:Nat):Int)+16)=((q*p+16:Nat):Int):=by rw[ab ω ω];simp
 obtain⟨page,a⟩:∃page,(bs.drop (q*p)).take p=page:=⟨_,rfl⟩;have s:page.length=p:=by rw[<-a];simp;omega
 have b:(bs.drop (q*p)).take 16=page.take 16:=by rw[<-a,d',Nat.min_eq_left ω]
 have t:(page.take 16).take 8=page.take 8:=by rw[d',Nat.min_eq_left ε]
 rw[a];refine en func255 ntmps255 results255 [0,1,2,4,5,6,36] ?_;intro c J C Y Z;simp only[go_sem,J,j3 q p ω,r,ms,b,t];refine⟨ω,?_⟩;apply aa Z (nH (page.take 8) 8 ζ ε ε);rw[gt page 8 8 (c7 _)];simp only[go_sem,J];generalize u:aB page 8=m;have w:=m.toNat_lt;have g:bz page=if m.toNat<1\/1099511627776<m.toNat\/page.take 16≠headM m then 0 else(m.toNat:Int):=by unfold bz;rw[u]
 split
 .split
  .rw[ab ω ω];apply aa Z (rM m _ (sQ m));simp only[go_sem,J,bS,strOf,bL,jf];refine⟨π,?_⟩;rw[g];split
   .rw[b9 (.inr (.inr fun e=>‹¬headM m=_› e.symm))]
   .have e:headM m=page.take 16:=by simpa using ‹¬ ¬headM m=_›
    rw[b0 (by rintro(h|h|h)<;>first|omega|exact h e.symm),ab ω ω]
  .exact⟨π,by rw[g,b9 ω]⟩
 .exact⟨π,by rw[g,b9 ω]⟩
theorem CK(page:List UInt8)(a:Nat):aF page a<65536:=by
 have h1:=(page.getD a 0).toNat_lt;have h2:=(page.getD (a+1) 0).toNat_lt;unfold aF;omega
theorem ae7(l:List UInt8)(a m:Nat)(h:a+2<=l.length):(l.drop a).take (2+m)=l.getD a 0::l.getD (a+1) 0::(l.drop (a+2)).take m:=by
 rw[hE (show a<l.length by omega),hE (show a+1<l.length by omega)];rw[show 2+m=m+1+1 by omega,c',c'];simp[cR,show a<l.length by omega,show a+1<l.length by omega]
theorem PN(page:List UInt8)(g:UInt64)(a:Nat)(h:a+10+aF page a<=page.length) :
 bQ g ((page.drop (a+2)).take (aF page a))=(page.drop a).take (10+aF page a)↔(page.drop (a+2+aF page a)).take 8=rL g ((page.drop (a+2)).take (aF page a)):=by
 have h1:=(page.getD a 0).toNat_lt;have h2:=(page.getD (a+1) 0).toNat_lt;have j:(page.drop (a+2)).take (aF page a+8)=(page.drop (a+2)).take (aF page a)++(page.drop (a+2+aF page a)).take 8:=by
  rw[List.take_add,List.drop_drop]
 have k:((page.drop (a+2)).take (aF page a)).length=aF page a:=ζ;have b:l' (aF page a/256)=page.getD a 0:=by
  apply m'.1;rw[nw];unfold aF;omega
 have e:l' (aF page a)=page.getD (a+1) 0:=by
  apply m'.1;rw[nw];unfold aF;omega
 rw[show 10+aF page a=2+(aF page a+8) by omega,ae7 page a _ ω,j];unfold bQ;rw[k,b,e];simp only[e'.injEq,true_and,List.append_cancel_left_eq];exact eq_comm
def ajz:List Nat:=[0,1,2,3,6,7,8,9,10,11,12,29,57,79]
attribute[go_sem]ajz
theorem Us(p k q n:Nat)(bs:List UInt8)(hn:n=p*k)(hl:bs.length=n)(hb:n<1000000000)(r:q<k)(hk:k<=8)(B:512<=p)(N:p<=10000)(g:UInt64)(A:Int)(hg:i'.wrap A=g.toNat) :
 FPure prog 256 [.agg [.i p,.p (.data 1 n (bs.map bt))],.i q,.i A]
  (.tup [.p (.data 1 (du ((bs.drop (q*p)).take p) g).1.length ((du ((bs.drop (q*p)).take p) g).1.map byP)),.i (du ((bs.drop (q*p)).take p) g).2]):=by
 have O:=fT (p:=p) r;have C:((q:Int)+1)*(p:Int)=((q*p+p:Nat):Int):=by simp[Int.add_mul]
 have P:h'.wrap ((q:Int)+1)=(q:Int)+1:=ab ω ω;have D:h'.wrap ((q*p+p:Nat):Int)=((q*p+p:Nat):Int):=ab ω ω;obtain⟨page,s⟩:∃page,(bs.drop (q*p)).take p=page:=⟨_,rfl⟩
 have y:page.length=p:=by rw[<-s];simp;omega
 rw[s];generalize K:du page g=T;refine en func256 ntmps256 results256 ajz ?_;intro c J Q Y Z;simp only[go_sem,J,j3 q p ω,P,C,D,ms,s];refine⟨ω,?_⟩;apply aX iS;refine bl Y Q (1000008::ajz) (α:={x:Nat×Nat×List (List UInt8) // x.2.1<=p/\p<x.2.1+x.1/\x.2.2++(dq page g x.1 x.2.1).1=T.1/\(dq page g x.1 x.2.1).2=T.2/\x.2.2.length<=x.2.1})
  (fun x=>⟨90,[(2,.i A),(8,.p (.data 1 p (page.map bt))),(9,.sl 0 0 x.1.2.2.length 1),(10,.i x.1.2.1)],[(0,some ⟨iS,byL x.1.2.2⟩)],1⟩) (fun x=>x.1.1) ⟨(p,16,[]),by show 16<=p;omega,by show p<16+p;omega,by show[]++(dq page g p 16).1=T.1;rw[<-K,<-y];rfl,by show(dq page g p 16).2=T.2;rw[<-K,<-y];rfl,η⟩ [] (sg 2 [1]) ?_ ?_
 .refine⟨rfl,?_,?_,rfl,rfl,trivial,fun i h=>aw [1] 2 i h⟩
  .simp only[go_sem]
  .simp only[go_sem,byL]
 .rintro⟨⟨f,a,l⟩,h1,h2,u,w,R⟩;simp only at h1 h2 u w R;have S:=(page.getD a 0).toNat_lt;have U:=(page.getD (a+1) 0).toNat_lt;generalize r:aF page a=m;have V:(page.getD a 0).toNat*256+(page.getD (a+1) 0).toNat=m:=r;have W:m<65536:=by rw[<-r];exact CK page a
  have w1:h'.wrap ((a:Int)+10)=((a+10:Nat):Int):=by rw[ab ω ω];simp
  have X:h'.wrap ((a:Int)+1)=((a+1:Nat):Int):=by rw[ab ω ω];simp
  have w3:h'.wrap ((a:Int)+2)=((a+2:Nat):Int):=by rw[ab ω ω];simp
  have L:h'.wrap (((a+10:Nat):Int)+(m:Int))=((a+10+m:Nat):Int):=by rw[ab ω ω];simp
  have w5:h'.wrap (((a+2:Nat):Int)+(m:Int))=((a+2+m:Nat):Int):=by rw[ab ω ω];simp
  have M:a+10+m-a=10+m:=ω;simp only[go_sem,J,yf,oV _ _ S U,V,w1,X,w3,L,w5,ms];obtain⟨f,rfl⟩:∃f',f=f'+1:=⟨f-1,ω⟩
  have z:cI page g a=[]->l=T.1/\a=T.2:=fun e=>by
   simp only[dq,e,if_true,b'] at u w;exact⟨u,w⟩
  have fin:cI page g a=[]->l.length<=l.length/\(l.length=T.1.length/\List.map byP (List.take l.length l)=List.map byP T.1)/\(a:Int)=(T.2:Int):=fun e=>by
   obtain⟨C,D⟩:=z e;rw[<-C,<-D];exact⟨c7 _,⟨rfl,by rw[cD (c7 _)]⟩,rfl⟩
  split
  .refine⟨⟨ω,ω⟩,ω,⟨ω,ω⟩,ω,π,?_⟩;split
   .split
    .split
     .exact aiQ
     .refine⟨⟨ω,ω,ω⟩,⟨ω,ω⟩,?_⟩;refine cw Y (ks:=ajz) (n:=2000) 1 ?_ ?_
      .simp only[go_sem,dl];omega
      .have tt:(((page.drop (a+2)).take m).take m)=(page.drop (a+2)).take m:=by rw[d',Nat.min_self]
       simp only[go_sem,dl,AQ,tt];apply aa Z (Ak g A hg ((page.drop (a+2)).take m) m ζ ω);simp only[go_sem,J,bS,strOf,bL,jf,w1,L,M];refine⟨ω,π,?_⟩;have j:=PN page g a ω;rw[r] at j;split
       .apply fin;rename_i t;unfold cI;rw[r,b0 ω,b0 ω,b9 (fun e=>t (j.2 e))]
       .rename_i t;have B:cI page g a=(page.drop (a+2)).take m:=by
         unfold cI;rw[r,b0 ω,b0 ω,b0 (fun e=>e (j.1 (by simpa using t)))]
        have o:((page.drop (a+2)).take m).length=m:=ζ;obtain⟨b,F⟩:∃b,(page.drop (a+2)).take m=b:=⟨_,rfl⟩
        rw[F] at B o⊢;simp only[dq,B] at u w;have I:b≠[]:=fun e=>by subst e;simp at o;omega
        rw[b0 I] at u w;subst o;simp only[qb];refine⟨⟨ω,ω⟩,⟨(f,a+10+b.length,l++[b]),by show a+10+b.length<=p;omega,by show p<a+10+b.length+f;omega,by simpa using u,by simpa using w,ζ⟩,by show f<f+1;omega,aA [3] rfl ?_ ?_ rfl rfl (c7 _)⟩
        .simp only[go_sem]
        .exact aiT
    .exact aiQ
   .exact aiQ
  .apply fin;unfold cI;split
   .rfl
   .rw[b9 ω]
